/- The laws ElimAll, ElimGone, ElimSteps and ElimModels of layer 23, in the reader's words. -/
import Derived.Test.YthhfdjcaafckbaaLaw23S
import Derived.Test.YthhfdjcaafckbaaLaw23V
import Derived.Test.YthhfdjcaafckbaaElimT
import Derived.Test.YthhfdjcaafckbaaAllX
import Derived.Test.YthhfdjcaafckbaaEngFrz
namespace Go.Proofs.Ythhfdjcaafckbaa.En
open Go Go.RowKit
set_option linter.unusedVariables false
set_option linter.unusedSimpArgs false
set_option linter.unnecessarySimpa false
def tyL23U4 : List (Nat × TD) := [(3, ⟨1, false, [.int .i64 0], [], none, 8, false, 1, 1⟩),
  (4, ⟨1, false, [.bool false], [], none, 1, true, 0, 2⟩),
  (22, ⟨1, false, [.slice none 0 0], [], some 43, 24, false, 0, 0⟩),
  (24, ⟨2, true, [.int .i64 0, .slice none 0 0], [(0, 3), (1, 22)], none, 32, false, 0, 6⟩),
  (28, ⟨2, true, [.int .i64 0, .slice none 0 0], [(0, 3), (1, 22)], none, 32, false, 0, 6⟩),
  (29, ⟨1, false, [.int .i64 0], [], none, 8, false, 1, 1⟩),
  (34, ⟨1, false, [.slice none 0 0], [], some 28, 24, false, 0, 0⟩),
  (36, ⟨1, false, [.slice none 0 0], [], some 4, 24, false, 0, 0⟩),
  (43, ⟨1, false, [.slice none 0 0], [], some 3, 24, false, 0, 3⟩)]
theorem tyL23U4_ok : AllTy Try.prog tyL23U4 := ⟨⟨by kernel_rfl, by kernel_rfl⟩, ⟨by kernel_rfl, by kernel_rfl⟩, ⟨by kernel_rfl, by kernel_rfl⟩, ⟨by kernel_rfl, by kernel_rfl⟩, ⟨by kernel_rfl, by kernel_rfl⟩, ⟨by kernel_rfl, by kernel_rfl⟩, ⟨by kernel_rfl, by kernel_rfl⟩, ⟨by kernel_rfl, by kernel_rfl⟩, ⟨by kernel_rfl, by kernel_rfl⟩, trivial⟩
def cx_elimModels : Cx := ⟨tyL23U4, [(12, (frzF (coeF [.agg [.id, .ld (.intss [])], .id] eOutF_σ))), (18, (frzF (coeF [.ld (.undos []), .ld (.bools [])] eBack_σ))), (22, (coeF [.agg [.id, .ld (.intss [])], .ld (.ints []), .id] eElim_σ)), (23, (coeF [.agg [.id, .ld (.intss [])], .ld (.ints []), .id] qElim_σ)), (11, (coeF [.agg [.id, .ld (.intss [])], .id, .id] qFew_σ)), (24, (coeF [.ld (.ints []), .id] qHas_σ)), (15, (coeF [.ld (.undos []), .ld (.undos [])] qUndos_σ)), (14, (coeF [.agg [.id, .ld (.intss [])], .agg [.id, .ld (.intss [])]] rSame_σ)), (21, (coeF [.agg [.id, .ld (.intss [])], .ld (.bools [])] cValue_σ)), (25, (coeF [.agg [.id, .ld (.intss [])]] cCheck_σ)), (20, sAll), (10, live23_σ)]⟩
theorem cx_elimModels_ok : CxOk Try.prog cx_elimModels := cx_ok tyL23U4_ok ⟨((eOutF_sound.coe [.agg [.id, .ld (.intss [])], .id] rfl)).frz, ((eBack_sound.coe [.ld (.undos []), .ld (.bools [])] rfl)).frz, (eElim_sound.coe [.agg [.id, .ld (.intss [])], .ld (.ints []), .id] rfl), (qElim_sound.coe [.agg [.id, .ld (.intss [])], .ld (.ints []), .id] rfl), (qFew_sound.coe [.agg [.id, .ld (.intss [])], .id, .id] rfl), (qHas_sound.coe [.ld (.ints []), .id] rfl), (qUndos_sound.coe [.ld (.undos []), .ld (.undos [])] rfl), (rSame_sound.coe [.agg [.id, .ld (.intss [])], .agg [.id, .ld (.intss [])]] rfl), (cValue_sound.coe [.agg [.id, .ld (.intss [])], .ld (.bools [])] rfl), (cCheck_sound.coe [.agg [.id, .ld (.intss [])]] rfl), sAll_sound, live23_sound, trivial⟩
def elimModels_σ : CtF
  | [.agg [.im (.val (.int .i64 N)), .im (.ls (.intss L))], .im (.ls (.ints fz)), .im (.val (.int .i64 g))], [] => some (L.length ≤ maxLen ∧ fz.length ≤ maxLen, .bool true, [])
  | _, _ => none
theorem elimModels_sound : Sound Try.prog 9 elimModels_σ := by
 refine sound_mk (cx := cx_elimModels) (fn := Try.f9) Try.func9 (by kernel_rfl) rfl ?_
 intro w0 G0 args os p r outs hσ hp hm0 hd0
 have hcx : CxOk Try.prog cx_elimModels := cx_elimModels_ok
 have hmx : Try.prog.follows .mixedOrders = true := by kernel_rfl
 unfold elimModels_σ at hσ
 split at hσ
 ·
  rename_i N L fz g
  simp only [Option.some.injEq, Prod.mk.injEq] at hσ
  obtain ⟨rfl, rfl, rfl⟩ := hσ
  obtain ⟨wW, wO, wm, wβ, wd⟩ := w0
  replace hm0 : wm = 0 := hm0
  subst hm0
  replace hd0 : wd = [] := hd0
  subst hd0
  refine ⟨by kernel_rfl, ?_⟩
  change Tri ⟨_, _, _, _, _, _⟩ [(0, .agg [.int N, .intss L]), (1, .ints fz), (2, .int g)] [] _ _
  refine tri_seq ?_
  refine tri_regD hcx [(1000, .frz)] [3] [1, 2] [] [] [(3, .pto [.int N, .ls (.intss L)])] [] (by kernel_rfl) ?_ ?_
  ·
   exact az
  refine fin_then ?_
  refine tri_seq ?_
  refine tri_seq ?_
  refine tri_regD hcx [] [19] [3, 1, 2] [] [(True)] [(19, .bool (!true))] [] (by kernel_rfl) ?_ ?_
  ·
   refine (ap ?_ az)
   first | omega | exact True.intro | exact id | exact hp.1 | exact hpe | exact (fun _ h => h) | exact ⟨hp.1, by decide, by decide⟩ | exact ⟨hx1, hx2⟩ | exact (fun _ => ⟨hx1, hx2⟩) | exact (fun _ => ⟨hu1, hu2⟩) | (constructor <;> omega) | (have := hv (by omega); omega) | (have := hv (by omega); constructor <;> omega) | exact ⟨hx1, hx2, hal m⟩ | exact ⟨hp.1, hlm, hal m⟩ | exact (fun _ => ⟨hp.1, hlm, hbm⟩) | exact ⟨hu1, hu2, by omega⟩ | (have := hp2; constructor <;> omega) | (first | omega | exact id | exact vcNot | exact vcG | exact vcH | (intro _; omega) | exact (fun _ h => h) | (intro h; simp at h; omega) | (simp only [List.length_cons, List.length_nil, List.length_append, List.length_map, List.length_set, List.length_replicate]; omega) | (intro h; simp [h]; done)) | (intro _; constructor <;> omega)
  refine fin_then ?_
  refine tri_cond (b := (!true)) (by kernel_rfl) (fun hb0 => ?_) (fun hb0 => ?_)
  ·
   skip
   have h0 := hb0
   cases h0
  ·
   skip
   have h0 := (notB_f hb0)
   refine tri_skip ?_
   refine fin_then ?_
   refine tri_seq ?_
   refine tri_seq ?_
   refine tri_regD hcx [] [31] [3, 1, 2] [] [(L.length ≤ maxLen ∧ 0 ≤ (20 : Int) ∧ (20 : Int) ≤ 1000000), ((!(!(Cn.fewB N L (7 : Int) (20 : Int)))) = true → ((!(!(Cn.fewB N L (7 : Int) (20 : Int)))) = true)), ((!(!(Cn.fewB N L (7 : Int) (20 : Int)))) = true → ((!(!(Cn.fewB N L (7 : Int) (20 : Int)))) = true)), ((!(Cn.fewB N L (7 : Int) (20 : Int))) = false → (!(!(Cn.fewB N L (7 : Int) (20 : Int)))) = true), ((!((!(Cn.fewB N L (7 : Int) (20 : Int))) || (decide ((fz.length : Int) > 20)))) = true → ((!((!(Cn.fewB N L (7 : Int) (20 : Int))) || (decide ((fz.length : Int) > 20)))) = true)), (((!(Cn.fewB N L (7 : Int) (20 : Int))) || (decide ((fz.length : Int) > 20))) = false → (!((!(Cn.fewB N L (7 : Int) (20 : Int))) || (decide ((fz.length : Int) > 20)))) = true)] [(31, .bool (((!(Cn.fewB N L (7 : Int) (20 : Int))) || (decide ((fz.length : Int) > 20))) || (decide (g > 12))))] [] (by kernel_rfl) ?_ ?_
   ·
    refine (ap ?_ (ap ?_ (ap ?_ (ap (by exact vcNot) (ap ?_ (ap (by exact vcNot) az))))))
    all_goals
     first | omega | exact True.intro | exact id | exact hp.1 | exact hpe | exact (fun _ h => h) | exact ⟨hp.1, by decide, by decide⟩ | exact ⟨hx1, hx2⟩ | exact (fun _ => ⟨hx1, hx2⟩) | exact (fun _ => ⟨hu1, hu2⟩) | (constructor <;> omega) | (have := hv (by omega); omega) | (have := hv (by omega); constructor <;> omega) | exact ⟨hx1, hx2, hal m⟩ | exact ⟨hp.1, hlm, hal m⟩ | exact (fun _ => ⟨hp.1, hlm, hbm⟩) | exact ⟨hu1, hu2, by omega⟩ | (have := hp2; constructor <;> omega) | (first | omega | exact id | exact vcNot | exact vcG | exact vcH | (intro _; omega) | exact (fun _ h => h) | (intro h; simp at h; omega) | (simp only [List.length_cons, List.length_nil, List.length_append, List.length_map, List.length_set, List.length_replicate]; omega) | (intro h; simp [h]; done)) | (intro _; constructor <;> omega)
   refine fin_then ?_
   refine tri_cond (b := (((!(Cn.fewB N L (7 : Int) (20 : Int))) || (decide ((fz.length : Int) > 20))) || (decide (g > 12)))) (by kernel_rfl) (fun hb1 => ?_) (fun hb1 => ?_)
   ·
    skip
    have h1 := hb1
    try simp only [Bool.or_eq_true, Bool.or_eq_false_iff, Bool.and_eq_true, Bool.and_eq_false_iff, Bool.not_eq_true', Bool.not_eq_false', decide_eq_true_eq, decide_eq_false_iff_not, bne_iff_ne, bne_eq_false_iff_eq, beq_iff_eq, beq_eq_false_iff_ne] at h1
    refine tri_seq ?_
    refine tri_regD hcx [] [6] [] [] [] [(6, .bool true)] [] (by kernel_rfl) ?_ ?_
    ·
     exact az
    refine fin_then ?_
    refine tri_ret ?_
    refine fin_then_ret ?_
    exact fin_ret [] rfl rfl trivial hcx (avs := [.bool true]) (by kernel_rfl) rfl [] rfl
   ·
    skip
    have h1 := hb1
    obtain ⟨⟨hf1, hf2, hs20⟩, hf4, hf5⟩ := Cn.few3 h1
    obtain ⟨⟨hx1, hx2⟩, hu1, hu2⟩ := Cn.el_bd (fz := fz) (g := g) (N := N) (L := L) (by omega) (by omega) hs20 (by omega)
    have hpe : L.length ≤ 40 ∧ (∀ l ∈ L, l.length ≤ 20) ∧ N ≤ 30 ∧ fz.length ≤ maxLen ∧ (g ≤ 40 ∨ 1099511627776 < g) := ⟨by omega, hs20, by omega, hp.2, by omega⟩
    have hlm : ∀ l ∈ L, l.length ≤ maxLen := fun l hl => by have := hs20 l hl; unfold maxLen; omega
    have hx3 := hx1
    have hu3 := hu1
    unfold maxLen at hx3 hu3
    refine tri_skip ?_
    refine fin_then ?_
    refine tri_seq ?_
    refine tri_regD hcx [(1008, .to 607)] [7, 8, 9] [3] [] [(L.length ≤ 40 ∧ (∀ l ∈ L, l.length ≤ 20) ∧ N ≤ 30 ∧ fz.length ≤ maxLen ∧ (g ≤ 40 ∨ 1099511627776 < g))] [(7, .loc 607 0), (8, .undos (Cn.elU N L fz g)), (9, .int (Cn.elE N L fz g))] [(607, .box [.int (Cn.elN N L fz g), .intss (Cn.elX N L fz g)])] (by kernel_rfl) ?_ ?_
    ·
     refine (ap ?_ az)
     first | omega | exact True.intro | exact id | exact hp.1 | exact hpe | exact (fun _ h => h) | exact ⟨hp.1, by decide, by decide⟩ | exact ⟨hx1, hx2⟩ | exact (fun _ => ⟨hx1, hx2⟩) | exact (fun _ => ⟨hu1, hu2⟩) | (constructor <;> omega) | (have := hv (by omega); omega) | (have := hv (by omega); constructor <;> omega) | exact ⟨hx1, hx2, hal m⟩ | exact ⟨hp.1, hlm, hal m⟩ | exact (fun _ => ⟨hp.1, hlm, hbm⟩) | exact ⟨hu1, hu2, by omega⟩ | (have := hp2; constructor <;> omega) | (first | omega | exact id | exact vcNot | exact vcG | exact vcH | (intro _; omega) | exact (fun _ h => h) | (intro h; simp at h; omega) | (simp only [List.length_cons, List.length_nil, List.length_append, List.length_map, List.length_set, List.length_replicate]; omega) | (intro h; simp [h]; done)) | (intro _; constructor <;> omega)
    refine fin_then ?_
    refine tri_seq ?_
    refine tri_seq ?_
    refine tri_regD hcx [] [41] [7, 8, 3] [607] [] [(41, .bool ((Cn.elE N L fz g) != 0))] [] (by kernel_rfl) ?_ ?_
    ·
     exact az
    refine fin_then ?_
    refine tri_cond (b := ((Cn.elE N L fz g) != 0)) (by kernel_rfl) (fun hb2 => ?_) (fun hb2 => ?_)
    ·
     skip
     have h2 := bne_iff_ne.1 hb2
     obtain ⟨hA, hB, hC, hE⟩ := Cn.el_no (e := Cn.elE N L fz g) rfl h2
     refine tri_seq ?_
     refine tri_regD hcx [] [6] [] [] [((((Cn.elX N L fz g).length : Int) == 0) = true → ((((Cn.elX N L fz g).length : Int) == 0) = true)), ((((Cn.elX N L fz g).length : Int) == 0) = true → ((((Cn.elX N L fz g).length : Int) == 0) = true)), ((((Cn.elX N L fz g).length : Int) == 0) = true → (((Cn.elX N L fz g).length : Int) == 0) = true)] [(6, .bool ((((Cn.elX N L fz g).length : Int) == 0) && (((Cn.elU N L fz g).length : Int) == 0)))] [] (by kernel_rfl) ?_ ?_
     ·
      refine (ap ?_ (ap ?_ (ap (by exact id) az)))
      all_goals
       first | omega | exact True.intro | exact id | exact hp.1 | exact hpe | exact (fun _ h => h) | exact ⟨hp.1, by decide, by decide⟩ | exact ⟨hx1, hx2⟩ | exact (fun _ => ⟨hx1, hx2⟩) | exact (fun _ => ⟨hu1, hu2⟩) | (constructor <;> omega) | (have := hv (by omega); omega) | (have := hv (by omega); constructor <;> omega) | exact ⟨hx1, hx2, hal m⟩ | exact ⟨hp.1, hlm, hal m⟩ | exact (fun _ => ⟨hp.1, hlm, hbm⟩) | exact ⟨hu1, hu2, by omega⟩ | (have := hp2; constructor <;> omega) | (first | omega | exact id | exact vcNot | exact vcG | exact vcH | (intro _; omega) | exact (fun _ h => h) | (intro h; simp at h; omega) | (simp only [List.length_cons, List.length_nil, List.length_append, List.length_map, List.length_set, List.length_replicate]; omega) | (intro h; simp [h]; done)) | (intro _; constructor <;> omega)
     refine fin_then ?_
     refine tri_ret ?_
     refine fin_then_ret ?_
     exact fin_ret [] rfl rfl trivial hcx (avs := [.bool ((((Cn.elX N L fz g).length : Int) == 0) && (((Cn.elU N L fz g).length : Int) == 0))]) (by kernel_rfl) (congrArg AV.bool (show ((((Cn.elX N L fz g).length : Int) == 0) && (((Cn.elU N L fz g).length : Int) == 0)) = true from (by first | rfl | (rw [hB, hC]; rfl)))) [] rfl
    ·
     skip
     have h2 := bneF hb2
     have hE0 : Cn.elE N L fz g = 0 := h2
     obtain ⟨hN9, hX9, hU9, _⟩ := Cn.el_ok hE0
     have hG := Cn.el_gone (by omega) (by omega) hs20 (by omega) hE0
     have hnum := hG.num
     have hg0 := (Cn.el_yes hE0).2.1
     have hN0 := (Cn.chkV_0.1 hG.chk).1.1
     have hp2 := Cn.two_pow8 (n := N.toNat) (by omega)
     have hal8 : ∀ m : Nat, (allV N.toNat (m : Int)).length ≤ 8 := fun m => by rw [allV_len]; omega
     have hal : ∀ m : Nat, (allV N.toNat (m : Int)).length ≤ maxLen := fun m => by have := hal8 m; unfold maxLen; omega
     refine tri_skip ?_
     refine fin_then ?_
     refine tri_seq ?_
     refine tri_regD hcx [(1003, .to 254)] [10] [7, 8, 3] [607] [Fit (N + 1), ((0 : Int) ≤ (N + 1) ∧ (N + 1) = (N + 1) ∧ (N + 1).toNat * 1 ≤ 140737488355328)] [(10, .row 254)] [(254, .row 4 (.bools (List.replicate (N + 1).toNat false)))] (by kernel_rfl) ?_ ?_
     ·
      refine (ap ?_ (ap ?_ az))
      all_goals
       first | omega | exact True.intro | exact id | exact hp.1 | exact hpe | exact (fun _ h => h) | exact ⟨hp.1, by decide, by decide⟩ | exact ⟨hx1, hx2⟩ | exact (fun _ => ⟨hx1, hx2⟩) | exact (fun _ => ⟨hu1, hu2⟩) | (constructor <;> omega) | (have := hv (by omega); omega) | (have := hv (by omega); constructor <;> omega) | exact ⟨hx1, hx2, hal m⟩ | exact ⟨hp.1, hlm, hal m⟩ | exact (fun _ => ⟨hp.1, hlm, hbm⟩) | exact ⟨hu1, hu2, by omega⟩ | (have := hp2; constructor <;> omega) | (first | omega | exact id | exact vcNot | exact vcG | exact vcH | (intro _; omega) | exact (fun _ h => h) | (intro h; simp at h; omega) | (simp only [List.length_cons, List.length_nil, List.length_append, List.length_map, List.length_set, List.length_replicate]; omega) | (intro h; simp [h]; done)) | (intro _; constructor <;> omega)
     refine fin_then ?_
     refine tri_seq ?_
     refine tri_seq ?_
     refine tri_regD hcx [] [55, 56, 57] [10, 7, 8, 3] [254, 607] [] [(55, .undos (Cn.elU N L fz g)), (56, .int ((Cn.elU N L fz g).length : Int)), (57, .int 0)] [] (by kernel_rfl) ?_ ?_
     ·
      exact az
     refine fin_then ?_
     refine tri_block ?_
     refine tri_ren (ρ := [(254, .to 10), (607, .to 607)]) (keys := [3, 7, 8, 10, 55, 56, 57]) (E' := [(3, .pto [.int N, .ls (.intss L)]), (7, .loc 607 0), (8, .undos (Cn.elU N L fz g)), (10, .row 10), (55, .undos (Cn.elU N L fz g)), (56, .int ((Cn.elU N L fz g).length : Int)), (57, .int 0)]) (H' := [(10, .row 4 (.bools (List.replicate (N + 1).toNat false))), (607, .box [.int (Cn.elN N L fz g), .intss (Cn.elX N L fz g)])]) (by kernel_rfl) ?_
     refine tri_loop (X := Nat) (fun x0 => x0 ≤ (Cn.elU N L fz g).length) (fun x0 => [(3, .pto [.int N, .ls (.intss L)]), (7, .loc 607 0), (8, .undos (Cn.elU N L fz g)), (10, .row 10), (55, .undos (Cn.elU N L fz g)), (56, .int ((Cn.elU N L fz g).length : Int)), (57, .int (x0 : Int))]) (fun x0 => [(10, .row 4 (.bools (Cn.goneL N ((Cn.elU N L fz g).take x0)))), (607, .box [.int (Cn.elN N L fz g), .intss (Cn.elX N L fz g)])]) (fun x0 => (Cn.elU N L fz g).length - x0) (0) ?_ ?_ ?_ ?_
     ·
      show 0 ≤ (Cn.elU N L fz g).length
      omega
     ·
      exact subE_mk (l := [.pto [.int N, .ls (.intss L)], .loc 607 0, .undos (Cn.elU N L fz g), .row 10, .undos (Cn.elU N L fz g), .int ((Cn.elU N L fz g).length : Int), .int 0]) (m := [.pto [.int N, .ls (.intss L)], .loc 607 0, .undos (Cn.elU N L fz g), .row 10, .undos (Cn.elU N L fz g), .int ((Cn.elU N L fz g).length : Int), .int (0 : Int)]) (by kernel_rfl) (by kernel_rfl) (consE rfl (consE rfl (consE rfl (consE rfl (consE rfl (consE rfl (consE (congrArg AV.int (show 0 = (0 : Int) from (by first | rfl | omega | (simp; done)))) rfl)))))))
     ·
      exact Eq.trans (show _ = [(10, .row 4 (.bools (List.replicate (N + 1).toNat false))), (607, .box [.int (Cn.elN N L fz g), .intss (Cn.elX N L fz g)])] from by kernel_rfl) (consH (congrArg (fun x => ((10 : Nat), x)) (congrArg (fun x => AObj.row 4 (.bools x)) (show (List.replicate (N + 1).toNat false) = (Cn.goneL N ((Cn.elU N L fz g).take 0)) from (by simp [Cn.goneL])))) (consH rfl rfl))
     ·
      intro i hI
      replace hI : i ≤ (Cn.elU N L fz g).length := hI
      change Tri _ [(3, .pto [.int N, .ls (.intss L)]), (7, .loc 607 0), (8, .undos (Cn.elU N L fz g)), (10, .row 10), (55, .undos (Cn.elU N L fz g)), (56, .int ((Cn.elU N L fz g).length : Int)), (57, .int (i : Int))] [(10, .row 4 (.bools (Cn.goneL N ((Cn.elU N L fz g).take i)))), (607, .box [.int (Cn.elN N L fz g), .intss (Cn.elX N L fz g)])] _ _
      have hst : i < (Cn.elU N L fz g).length → _ := fun h => hG.step i h
      have hv : i < (Cn.elU N L fz g).length → 1 ≤ ((Cn.elU N L fz g).getD i (0, [])).1 ∧ ((Cn.elU N L fz g).getD i (0, [])).1 ≤ N := fun h => ⟨(hst h).v1, (hst h).v2⟩
      have hgl : (Cn.goneL N ((Cn.elU N L fz g).take i)).length = (N + 1).toNat := Cn.goneL_len
      refine tri_seq ?_
      refine tri_regD hcx [] [58] [3, 7, 8, 10, 55, 56, 57] [10, 607] [] [(58, .bool (decide ((i : Int) < ((Cn.elU N L fz g).length : Int))))] [] (by kernel_rfl) ?_ ?_
      ·
       exact az
      refine fin_then ?_
      refine tri_seq ?_
      refine tri_cond (b := (decide ((i : Int) < ((Cn.elU N L fz g).length : Int)))) (by kernel_rfl) (fun hb3 => ?_) (fun hb3 => ?_)
      ·
       skip
       have h3 := of_decide_eq_true hb3
       refine tri_skip ?_
       refine fin_then ?_
       refine tri_seq ?_
       refine tri_block ?_
       refine tri_seq ?_
       refine tri_regD hcx [(1002, .to 612)] [12] [3, 7, 8, 10, 55, 56, 57] [10, 607] [((0 : Int) ≤ (i : Int) ∧ (i : Int) < ((Cn.elU N L fz g).length : Int))] [(12, .loc 612 0)] [(612, .box [.int (((Cn.elU N L fz g).getD i (0, [])).1), .intss (((Cn.elU N L fz g).getD i (0, [])).2)])] (by kernel_rfl) ?_ ?_
       ·
        refine (ap ?_ az)
        first | omega | exact True.intro | exact id | exact hp.1 | exact hpe | exact (fun _ h => h) | exact ⟨hp.1, by decide, by decide⟩ | exact ⟨hx1, hx2⟩ | exact (fun _ => ⟨hx1, hx2⟩) | exact (fun _ => ⟨hu1, hu2⟩) | (constructor <;> omega) | (have := hv (by omega); omega) | (have := hv (by omega); constructor <;> omega) | exact ⟨hx1, hx2, hal m⟩ | exact ⟨hp.1, hlm, hal m⟩ | exact (fun _ => ⟨hp.1, hlm, hbm⟩) | exact ⟨hu1, hu2, by omega⟩ | (have := hp2; constructor <;> omega) | (first | omega | exact id | exact vcNot | exact vcG | exact vcH | (intro _; omega) | exact (fun _ h => h) | (intro h; simp at h; omega) | (simp only [List.length_cons, List.length_nil, List.length_append, List.length_map, List.length_set, List.length_replicate]; omega) | (intro h; simp [h]; done)) | (intro _; constructor <;> omega)
       refine fin_then ?_
       refine tri_seq ?_
       refine tri_seq ?_
       refine tri_regD hcx [] [70] [12, 3, 7, 8, 10, 55, 56, 57] [612, 10, 607] [((!(decide (((Cn.elU N L fz g).getD i (0, [])).1 < 1))) = true → ((!(decide (((Cn.elU N L fz g).getD i (0, [])).1 < 1))) = true)), ((!(decide (((Cn.elU N L fz g).getD i (0, [])).1 < 1))) = true → ((!(decide (((Cn.elU N L fz g).getD i (0, [])).1 < 1))) = true)), ((!(decide (((Cn.elU N L fz g).getD i (0, [])).1 < 1))) = true → ((!(decide (((Cn.elU N L fz g).getD i (0, [])).1 < 1))) = true)), ((!(decide (((Cn.elU N L fz g).getD i (0, [])).1 < 1))) = true → ((!(decide (((Cn.elU N L fz g).getD i (0, [])).1 < 1))) = true)), ((decide (((Cn.elU N L fz g).getD i (0, [])).1 < 1)) = false → (!(decide (((Cn.elU N L fz g).getD i (0, [])).1 < 1))) = true)] [(70, .bool ((decide (((Cn.elU N L fz g).getD i (0, [])).1 < 1)) || (decide (((Cn.elU N L fz g).getD i (0, [])).1 > N))))] [] (by kernel_rfl) ?_ ?_
       ·
        refine (ap ?_ (ap ?_ (ap ?_ (ap ?_ (ap (by exact vcNot) az)))))
        all_goals
         first | omega | exact True.intro | exact id | exact hp.1 | exact hpe | exact (fun _ h => h) | exact ⟨hp.1, by decide, by decide⟩ | exact ⟨hx1, hx2⟩ | exact (fun _ => ⟨hx1, hx2⟩) | exact (fun _ => ⟨hu1, hu2⟩) | (constructor <;> omega) | (have := hv (by omega); omega) | (have := hv (by omega); constructor <;> omega) | exact ⟨hx1, hx2, hal m⟩ | exact ⟨hp.1, hlm, hal m⟩ | exact (fun _ => ⟨hp.1, hlm, hbm⟩) | exact ⟨hu1, hu2, by omega⟩ | (have := hp2; constructor <;> omega) | (first | omega | exact id | exact vcNot | exact vcG | exact vcH | (intro _; omega) | exact (fun _ h => h) | (intro h; simp at h; omega) | (simp only [List.length_cons, List.length_nil, List.length_append, List.length_map, List.length_set, List.length_replicate]; omega) | (intro h; simp [h]; done)) | (intro _; constructor <;> omega)
       refine fin_then ?_
       refine tri_cond (b := ((decide (((Cn.elU N L fz g).getD i (0, [])).1 < 1)) || (decide (((Cn.elU N L fz g).getD i (0, [])).1 > N)))) (by kernel_rfl) (fun hb4 => ?_) (fun hb4 => ?_)
       ·
        skip
        have h4 := hb4
        try simp only [Bool.or_eq_true, Bool.or_eq_false_iff, Bool.and_eq_true, Bool.and_eq_false_iff, Bool.not_eq_true', Bool.not_eq_false', decide_eq_true_eq, decide_eq_false_iff_not, bne_iff_ne, bne_eq_false_iff_eq, beq_iff_eq, beq_eq_false_iff_ne] at h4
        (have hz9 := hv (by omega); omega)
       ·
        skip
        have h4 := hb4
        try simp only [Bool.or_eq_true, Bool.or_eq_false_iff, Bool.and_eq_true, Bool.and_eq_false_iff, Bool.not_eq_true', Bool.not_eq_false', decide_eq_true_eq, decide_eq_false_iff_not, bne_iff_ne, bne_eq_false_iff_eq, beq_iff_eq, beq_eq_false_iff_ne] at h4
        refine tri_skip ?_
        refine fin_then ?_
        refine tri_regD hcx [(10, .to 10)] [] [3, 7, 8, 10, 55, 56, 57] [607] [((0 : Int) ≤ ((Cn.elU N L fz g).getD i (0, [])).1 ∧ ((Cn.elU N L fz g).getD i (0, [])).1 < ((Cn.goneL N ((Cn.elU N L fz g).take i)).length : Int)), (((((Cn.elU N L fz g).getD i (0, [])).1).toNat) < (Cn.goneL N ((Cn.elU N L fz g).take i)).length)] [] [(10, .row 4 (.bools ((Cn.goneL N ((Cn.elU N L fz g).take i)).set ((((Cn.elU N L fz g).getD i (0, [])).1).toNat) true)))] (by kernel_rfl) ?_ ?_
        ·
         refine (ap ?_ (ap ?_ az))
         all_goals
          first | omega | exact True.intro | exact id | exact hp.1 | exact hpe | exact (fun _ h => h) | exact ⟨hp.1, by decide, by decide⟩ | exact ⟨hx1, hx2⟩ | exact (fun _ => ⟨hx1, hx2⟩) | exact (fun _ => ⟨hu1, hu2⟩) | (constructor <;> omega) | (have := hv (by omega); omega) | (have := hv (by omega); constructor <;> omega) | exact ⟨hx1, hx2, hal m⟩ | exact ⟨hp.1, hlm, hal m⟩ | exact (fun _ => ⟨hp.1, hlm, hbm⟩) | exact ⟨hu1, hu2, by omega⟩ | (have := hp2; constructor <;> omega) | (first | omega | exact id | exact vcNot | exact vcG | exact vcH | (intro _; omega) | exact (fun _ h => h) | (intro h; simp at h; omega) | (simp only [List.length_cons, List.length_nil, List.length_append, List.length_map, List.length_set, List.length_replicate]; omega) | (intro h; simp [h]; done)) | (intro _; constructor <;> omega)
        refine fin_block ?_
        refine fin_then ?_
        refine tri_regD hcx [] [57] [3, 7, 8, 10, 55, 56] [10, 607] [Fit ((i : Int) + 1)] [(57, .int ((i : Int) + 1))] [] (by kernel_rfl) ?_ ?_
        ·
         refine (ap ?_ az)
         first | omega | exact True.intro | exact id | exact hp.1 | exact hpe | exact (fun _ h => h) | exact ⟨hp.1, by decide, by decide⟩ | exact ⟨hx1, hx2⟩ | exact (fun _ => ⟨hx1, hx2⟩) | exact (fun _ => ⟨hu1, hu2⟩) | (constructor <;> omega) | (have := hv (by omega); omega) | (have := hv (by omega); constructor <;> omega) | exact ⟨hx1, hx2, hal m⟩ | exact ⟨hp.1, hlm, hal m⟩ | exact (fun _ => ⟨hp.1, hlm, hbm⟩) | exact ⟨hu1, hu2, by omega⟩ | (have := hp2; constructor <;> omega) | (first | omega | exact id | exact vcNot | exact vcG | exact vcH | (intro _; omega) | exact (fun _ h => h) | (intro h; simp at h; omega) | (simp only [List.length_cons, List.length_nil, List.length_append, List.length_map, List.length_set, List.length_replicate]; omega) | (intro h; simp [h]; done)) | (intro _; constructor <;> omega)
        refine fin_round (i + 1) ?_ ?_ ?_ ?_
        ·
         show (i + 1) ≤ (Cn.elU N L fz g).length
         omega
        ·
         show (Cn.elU N L fz g).length - (i + 1) < (Cn.elU N L fz g).length - i
         omega
        ·
         exact subE_mk (l := [.pto [.int N, .ls (.intss L)], .loc 607 0, .undos (Cn.elU N L fz g), .row 10, .undos (Cn.elU N L fz g), .int ((Cn.elU N L fz g).length : Int), .int ((i : Int) + 1)]) (m := [.pto [.int N, .ls (.intss L)], .loc 607 0, .undos (Cn.elU N L fz g), .row 10, .undos (Cn.elU N L fz g), .int ((Cn.elU N L fz g).length : Int), .int ((i + 1) : Int)]) (by kernel_rfl) (by kernel_rfl) (consE rfl (consE rfl (consE rfl (consE rfl (consE rfl (consE rfl (consE (congrArg AV.int (show ((i : Int) + 1) = ((i + 1) : Int) from (by first | rfl | omega | (simp; done)))) rfl)))))))
        ·
         exact Eq.trans (show _ = [(10, .row 4 (.bools ((Cn.goneL N ((Cn.elU N L fz g).take i)).set ((((Cn.elU N L fz g).getD i (0, [])).1).toNat) true))), (607, .box [.int (Cn.elN N L fz g), .intss (Cn.elX N L fz g)])] from by kernel_rfl) (consH (congrArg (fun x => ((10 : Nat), x)) (congrArg (fun x => AObj.row 4 (.bools x)) (show ((Cn.goneL N ((Cn.elU N L fz g).take i)).set ((((Cn.elU N L fz g).getD i (0, [])).1).toNat) true) = (Cn.goneL N ((Cn.elU N L fz g).take (i + 1))) from (by exact Cn.goneL_succ (by omega))))) (consH rfl rfl))
      ·
       skip
       have h3 := of_decide_eq_false hb3
       refine tri_exit ?_
       refine fin_then_exit ?_
       refine fin_then_exit ?_
       refine fin_block_same ?_
       refine fin_then ?_
       refine tri_seq ?_
       refine tri_seq ?_
       refine tri_regD hcx [] [78, 79] [3, 7, 8, 10] [10, 607] [((0 : Int) ≤ N ∧ N ≤ 64 ∧ Fit (1 * 2 ^ N.toNat))] [(78, .int (1 * 2 ^ N.toNat)), (79, .int 0)] [] (by kernel_rfl) ?_ ?_
       ·
        refine (ap ?_ az)
        first | omega | exact True.intro | exact id | exact hp.1 | exact hpe | exact (fun _ h => h) | exact ⟨hp.1, by decide, by decide⟩ | exact ⟨hx1, hx2⟩ | exact (fun _ => ⟨hx1, hx2⟩) | exact (fun _ => ⟨hu1, hu2⟩) | (constructor <;> omega) | (have := hv (by omega); omega) | (have := hv (by omega); constructor <;> omega) | exact ⟨hx1, hx2, hal m⟩ | exact ⟨hp.1, hlm, hal m⟩ | exact (fun _ => ⟨hp.1, hlm, hbm⟩) | exact ⟨hu1, hu2, by omega⟩ | (have := hp2; constructor <;> omega) | (first | omega | exact id | exact vcNot | exact vcG | exact vcH | (intro _; omega) | exact (fun _ h => h) | (intro h; simp at h; omega) | (simp only [List.length_cons, List.length_nil, List.length_append, List.length_map, List.length_set, List.length_replicate]; omega) | (intro h; simp [h]; done)) | (intro _; constructor <;> omega)
       refine fin_then ?_
       refine tri_block ?_
       refine tri_loop (X := Nat) (fun x0 => (x0 : Int) ≤ 1 * 2 ^ N.toNat) (fun x0 => [(3, .pto [.int N, .ls (.intss L)]), (7, .loc 607 0), (8, .undos (Cn.elU N L fz g)), (10, .row 10), (78, .int (1 * 2 ^ N.toNat)), (79, .int (x0 : Int))]) (fun x0 => [(10, .row 4 (.bools (Cn.goneL N ((Cn.elU N L fz g).take i)))), (607, .box [.int (Cn.elN N L fz g), .intss (Cn.elX N L fz g)])]) (fun x0 => (1 * 2 ^ N.toNat : Int).toNat - x0) (0) ?_ ?_ ?_ ?_
       ·
        show (0 : Int) ≤ 1 * 2 ^ N.toNat
        omega
       ·
        exact subE_mk (l := [.pto [.int N, .ls (.intss L)], .loc 607 0, .undos (Cn.elU N L fz g), .row 10, .int (1 * 2 ^ N.toNat), .int 0]) (m := [.pto [.int N, .ls (.intss L)], .loc 607 0, .undos (Cn.elU N L fz g), .row 10, .int (1 * 2 ^ N.toNat), .int (0 : Int)]) (by kernel_rfl) (by kernel_rfl) (consE rfl (consE rfl (consE rfl (consE rfl (consE rfl (consE (congrArg AV.int (show 0 = (0 : Int) from (by first | rfl | omega | (simp; done)))) rfl))))))
       ·
        kernel_rfl
       ·
        intro m hI
        replace hI : (m : Int) ≤ 1 * 2 ^ N.toNat := hI
        change Tri _ [(3, .pto [.int N, .ls (.intss L)]), (7, .loc 607 0), (8, .undos (Cn.elU N L fz g)), (10, .row 10), (78, .int (1 * 2 ^ N.toNat)), (79, .int (m : Int))] [(10, .row 4 (.bools (Cn.goneL N ((Cn.elU N L fz g).take i)))), (607, .box [.int (Cn.elN N L fz g), .intss (Cn.elX N L fz g)])] _ _
        have hM := Cn.el_mods (fz := fz) (g := g) (N := N) (L := L) (by omega) (by omega) hs20 (by omega) hE0 (allV N.toNat (m : Int)) (by rw [allV_len]; omega)
        have hbl := hM.len
        have hb8 := hal8 m
        have hbm : (Cn.backF (Cn.elU N L fz g) (allV N.toNat (m : Int))).length ≤ maxLen := by unfold maxLen; omega
        have hal9 : (allV N.toNat (m : Int)).length = N.toNat + 1 := allV_len
        refine tri_seq ?_
        refine tri_regD hcx [] [80] [3, 7, 8, 10, 78, 79] [10, 607] [] [(80, .bool (decide ((m : Int) < (1 * 2 ^ N.toNat))))] [] (by kernel_rfl) ?_ ?_
        ·
         exact az
        refine fin_then ?_
        refine tri_seq ?_
        refine tri_cond (b := (decide ((m : Int) < (1 * 2 ^ N.toNat)))) (by kernel_rfl) (fun hb5 => ?_) (fun hb5 => ?_)
        ·
         skip
         have h5 := of_decide_eq_true hb5
         refine tri_skip ?_
         refine fin_then ?_
         refine tri_seq ?_
         refine tri_block ?_
         refine tri_seq ?_
         refine tri_regD hcx [] [13] [3, 7, 8, 10, 78, 79] [10, 607] [] [(13, .int (m : Int))] [] (by kernel_rfl) ?_ ?_
         ·
          exact az
         refine fin_then ?_
         refine tri_seq ?_
         refine tri_regD hcx [(1003, .frz)] [14] [3, 7, 8, 10, 78, 79] [10, 607] [(0 ≤ N ∧ N ≤ 60)] [(14, .bools (allV N.toNat (m : Int)))] [] (by kernel_rfl) ?_ ?_
         ·
          refine (ap ?_ az)
          first | omega | exact True.intro | exact id | exact hp.1 | exact hpe | exact (fun _ h => h) | exact ⟨hp.1, by decide, by decide⟩ | exact ⟨hx1, hx2⟩ | exact (fun _ => ⟨hx1, hx2⟩) | exact (fun _ => ⟨hu1, hu2⟩) | (constructor <;> omega) | (have := hv (by omega); omega) | (have := hv (by omega); constructor <;> omega) | exact ⟨hx1, hx2, hal m⟩ | exact ⟨hp.1, hlm, hal m⟩ | exact (fun _ => ⟨hp.1, hlm, hbm⟩) | exact ⟨hu1, hu2, by omega⟩ | (have := hp2; constructor <;> omega) | (first | omega | exact id | exact vcNot | exact vcG | exact vcH | (intro _; omega) | exact (fun _ h => h) | (intro h; simp at h; omega) | (simp only [List.length_cons, List.length_nil, List.length_append, List.length_map, List.length_set, List.length_replicate]; omega) | (intro h; simp [h]; done)) | (intro _; constructor <;> omega)
         refine fin_then ?_
         refine tri_seq ?_
         refine tri_regD hcx [] [15] [14, 3, 7, 8, 10, 78, 79] [10, 607] [((Cn.elX N L fz g).length ≤ maxLen ∧ (∀ l ∈ (Cn.elX N L fz g), l.length ≤ maxLen) ∧ (allV N.toNat (m : Int)).length ≤ maxLen)] [(15, .bool (Cn.valV (Cn.elN N L fz g) (Cn.elX N L fz g) (allV N.toNat (m : Int))))] [] (by kernel_rfl) ?_ ?_
         ·
          refine (ap ?_ az)
          first | omega | exact True.intro | exact id | exact hp.1 | exact hpe | exact (fun _ h => h) | exact ⟨hp.1, by decide, by decide⟩ | exact ⟨hx1, hx2⟩ | exact (fun _ => ⟨hx1, hx2⟩) | exact (fun _ => ⟨hu1, hu2⟩) | (constructor <;> omega) | (have := hv (by omega); omega) | (have := hv (by omega); constructor <;> omega) | exact ⟨hx1, hx2, hal m⟩ | exact ⟨hp.1, hlm, hal m⟩ | exact (fun _ => ⟨hp.1, hlm, hbm⟩) | exact ⟨hu1, hu2, by omega⟩ | (have := hp2; constructor <;> omega) | (first | omega | exact id | exact vcNot | exact vcG | exact vcH | (intro _; omega) | exact (fun _ h => h) | (intro h; simp at h; omega) | (simp only [List.length_cons, List.length_nil, List.length_append, List.length_map, List.length_set, List.length_replicate]; omega) | (intro h; simp [h]; done)) | (intro _; constructor <;> omega)
         refine fin_then ?_
         refine tri_seq ?_
         refine tri_seq ?_
         refine tri_regD hcx [] [95] [15, 14, 3, 7, 8, 10, 78, 79] [10, 607] [(L.length ≤ maxLen ∧ (∀ l ∈ L, l.length ≤ maxLen) ∧ (allV N.toNat (m : Int)).length ≤ maxLen), ((Cn.valV N L (allV N.toNat (m : Int))) = true → ((Cn.valV N L (allV N.toNat (m : Int))) = true)), ((Cn.valV N L (allV N.toNat (m : Int))) = true → (Cn.valV N L (allV N.toNat (m : Int))) = true)] [(95, .bool ((Cn.valV N L (allV N.toNat (m : Int))) && (!(Cn.valV (Cn.elN N L fz g) (Cn.elX N L fz g) (allV N.toNat (m : Int))))))] [] (by kernel_rfl) ?_ ?_
         ·
          refine (ap ?_ (ap ?_ (ap (by exact id) az)))
          all_goals
           first | omega | exact True.intro | exact id | exact hp.1 | exact hpe | exact (fun _ h => h) | exact ⟨hp.1, by decide, by decide⟩ | exact ⟨hx1, hx2⟩ | exact (fun _ => ⟨hx1, hx2⟩) | exact (fun _ => ⟨hu1, hu2⟩) | (constructor <;> omega) | (have := hv (by omega); omega) | (have := hv (by omega); constructor <;> omega) | exact ⟨hx1, hx2, hal m⟩ | exact ⟨hp.1, hlm, hal m⟩ | exact (fun _ => ⟨hp.1, hlm, hbm⟩) | exact ⟨hu1, hu2, by omega⟩ | (have := hp2; constructor <;> omega) | (first | omega | exact id | exact vcNot | exact vcG | exact vcH | (intro _; omega) | exact (fun _ h => h) | (intro h; simp at h; omega) | (simp only [List.length_cons, List.length_nil, List.length_append, List.length_map, List.length_set, List.length_replicate]; omega) | (intro h; simp [h]; done)) | (intro _; constructor <;> omega)
         refine fin_then ?_
         refine tri_cond (b := ((Cn.valV N L (allV N.toNat (m : Int))) && (!(Cn.valV (Cn.elN N L fz g) (Cn.elX N L fz g) (allV N.toNat (m : Int)))))) (by kernel_rfl) (fun hb6 => ?_) (fun hb6 => ?_)
         ·
          skip
          have h6 := hb6
          exact (Cn.mods_95 hM hN9 h6).elim
         ·
          skip
          have h6 := hb6
          try simp only [Bool.or_eq_true, Bool.or_eq_false_iff, Bool.and_eq_true, Bool.and_eq_false_iff, Bool.not_eq_true', Bool.not_eq_false', decide_eq_true_eq, decide_eq_false_iff_not, bne_iff_ne, bne_eq_false_iff_eq, beq_iff_eq, beq_eq_false_iff_ne] at h6
          refine tri_skip ?_
          refine fin_then ?_
          refine tri_seq ?_
          refine tri_seq ?_
          refine tri_regD hcx [] [97] [14, 3, 7, 8, 10, 78, 79] [10, 607] [] [(97, .bool (!(Cn.valV (Cn.elN N L fz g) (Cn.elX N L fz g) (allV N.toNat (m : Int)))))] [] (by kernel_rfl) ?_ ?_
          ·
           exact az
          refine fin_then ?_
          refine tri_cond (b := (!(Cn.valV (Cn.elN N L fz g) (Cn.elX N L fz g) (allV N.toNat (m : Int))))) (by kernel_rfl) (fun hb7 => ?_) (fun hb7 => ?_)
          ·
           skip
           have h7 := (notB_t hb7)
           refine tri_exit ?_
           refine fin_then_exit ?_
           refine fin_block_same ?_
           refine fin_then ?_
           refine tri_regD hcx [] [79] [3, 7, 8, 10, 78] [10, 607] [Fit ((m : Int) + 1)] [(79, .int ((m : Int) + 1))] [] (by kernel_rfl) ?_ ?_
           ·
            refine (ap ?_ az)
            first | omega | exact True.intro | exact id | exact hp.1 | exact hpe | exact (fun _ h => h) | exact ⟨hp.1, by decide, by decide⟩ | exact ⟨hx1, hx2⟩ | exact (fun _ => ⟨hx1, hx2⟩) | exact (fun _ => ⟨hu1, hu2⟩) | (constructor <;> omega) | (have := hv (by omega); omega) | (have := hv (by omega); constructor <;> omega) | exact ⟨hx1, hx2, hal m⟩ | exact ⟨hp.1, hlm, hal m⟩ | exact (fun _ => ⟨hp.1, hlm, hbm⟩) | exact ⟨hu1, hu2, by omega⟩ | (have := hp2; constructor <;> omega) | (first | omega | exact id | exact vcNot | exact vcG | exact vcH | (intro _; omega) | exact (fun _ h => h) | (intro h; simp at h; omega) | (simp only [List.length_cons, List.length_nil, List.length_append, List.length_map, List.length_set, List.length_replicate]; omega) | (intro h; simp [h]; done)) | (intro _; constructor <;> omega)
           refine fin_round (m + 1) ?_ ?_ ?_ ?_
           ·
            show ((m + 1) : Int) ≤ 1 * 2 ^ N.toNat
            omega
           ·
            show (1 * 2 ^ N.toNat : Int).toNat - (m + 1) < (1 * 2 ^ N.toNat : Int).toNat - m
            omega
           ·
            exact subE_mk (l := [.pto [.int N, .ls (.intss L)], .loc 607 0, .undos (Cn.elU N L fz g), .row 10, .int (1 * 2 ^ N.toNat), .int ((m : Int) + 1)]) (m := [.pto [.int N, .ls (.intss L)], .loc 607 0, .undos (Cn.elU N L fz g), .row 10, .int (1 * 2 ^ N.toNat), .int ((m + 1) : Int)]) (by kernel_rfl) (by kernel_rfl) (consE rfl (consE rfl (consE rfl (consE rfl (consE rfl (consE (congrArg AV.int (show ((m : Int) + 1) = ((m + 1) : Int) from (by first | rfl | omega | (simp; done)))) rfl))))))
           ·
            kernel_rfl
          ·
           skip
           have h7 := hb7
           have hvx := notB_f h7
           refine tri_skip ?_
           refine fin_then ?_
           refine tri_seq ?_
           refine tri_regD hcx [] [16] [14, 3, 7, 8, 10, 78, 79] [10, 607] [((Cn.elU N L fz g).length ≤ maxLen ∧ (∀ w ∈ (Cn.elU N L fz g), w.2.length ≤ maxLen ∧ ∀ l ∈ w.2, l.length ≤ maxLen) ∧ (allV N.toNat (m : Int)).length ≤ 1000000)] [(16, .bools (Cn.backF (Cn.elU N L fz g) (allV N.toNat (m : Int))))] [] (by kernel_rfl) ?_ ?_
           ·
            refine (ap ?_ az)
            first | omega | exact True.intro | exact id | exact hp.1 | exact hpe | exact (fun _ h => h) | exact ⟨hp.1, by decide, by decide⟩ | exact ⟨hx1, hx2⟩ | exact (fun _ => ⟨hx1, hx2⟩) | exact (fun _ => ⟨hu1, hu2⟩) | (constructor <;> omega) | (have := hv (by omega); omega) | (have := hv (by omega); constructor <;> omega) | exact ⟨hx1, hx2, hal m⟩ | exact ⟨hp.1, hlm, hal m⟩ | exact (fun _ => ⟨hp.1, hlm, hbm⟩) | exact ⟨hu1, hu2, by omega⟩ | (have := hp2; constructor <;> omega) | (first | omega | exact id | exact vcNot | exact vcG | exact vcH | (intro _; omega) | exact (fun _ h => h) | (intro h; simp at h; omega) | (simp only [List.length_cons, List.length_nil, List.length_append, List.length_map, List.length_set, List.length_replicate]; omega) | (intro h; simp [h]; done)) | (intro _; constructor <;> omega)
           refine fin_then ?_
           refine tri_seq ?_
           refine tri_seq ?_
           refine tri_regD hcx [] [111] [16, 14, 3, 7, 8, 10, 78, 79] [10, 607] [((!(((Cn.backF (Cn.elU N L fz g) (allV N.toNat (m : Int))).length : Int) != ((allV N.toNat (m : Int)).length : Int))) = true → ((!(((Cn.backF (Cn.elU N L fz g) (allV N.toNat (m : Int))).length : Int) != ((allV N.toNat (m : Int)).length : Int))) = true)), ((!(((Cn.backF (Cn.elU N L fz g) (allV N.toNat (m : Int))).length : Int) != ((allV N.toNat (m : Int)).length : Int))) = true → ((!(((Cn.backF (Cn.elU N L fz g) (allV N.toNat (m : Int))).length : Int) != ((allV N.toNat (m : Int)).length : Int))) = true)), ((!(((Cn.backF (Cn.elU N L fz g) (allV N.toNat (m : Int))).length : Int) != ((allV N.toNat (m : Int)).length : Int))) = true → (L.length ≤ maxLen ∧ (∀ l ∈ L, l.length ≤ maxLen) ∧ (Cn.backF (Cn.elU N L fz g) (allV N.toNat (m : Int))).length ≤ maxLen)), ((!(((Cn.backF (Cn.elU N L fz g) (allV N.toNat (m : Int))).length : Int) != ((allV N.toNat (m : Int)).length : Int))) = true → ((!(((Cn.backF (Cn.elU N L fz g) (allV N.toNat (m : Int))).length : Int) != ((allV N.toNat (m : Int)).length : Int))) = true)), ((((Cn.backF (Cn.elU N L fz g) (allV N.toNat (m : Int))).length : Int) != ((allV N.toNat (m : Int)).length : Int)) = false → (!(((Cn.backF (Cn.elU N L fz g) (allV N.toNat (m : Int))).length : Int) != ((allV N.toNat (m : Int)).length : Int))) = true)] [(111, .bool ((((Cn.backF (Cn.elU N L fz g) (allV N.toNat (m : Int))).length : Int) != ((allV N.toNat (m : Int)).length : Int)) || (!(Cn.valV N L (Cn.backF (Cn.elU N L fz g) (allV N.toNat (m : Int)))))))] [] (by kernel_rfl) ?_ ?_
           ·
            refine (ap ?_ (ap ?_ (ap ?_ (ap ?_ (ap (by exact vcNot) az)))))
            all_goals
             first | omega | exact True.intro | exact id | exact hp.1 | exact hpe | exact (fun _ h => h) | exact ⟨hp.1, by decide, by decide⟩ | exact ⟨hx1, hx2⟩ | exact (fun _ => ⟨hx1, hx2⟩) | exact (fun _ => ⟨hu1, hu2⟩) | (constructor <;> omega) | (have := hv (by omega); omega) | (have := hv (by omega); constructor <;> omega) | exact ⟨hx1, hx2, hal m⟩ | exact ⟨hp.1, hlm, hal m⟩ | exact (fun _ => ⟨hp.1, hlm, hbm⟩) | exact ⟨hu1, hu2, by omega⟩ | (have := hp2; constructor <;> omega) | (first | omega | exact id | exact vcNot | exact vcG | exact vcH | (intro _; omega) | exact (fun _ h => h) | (intro h; simp at h; omega) | (simp only [List.length_cons, List.length_nil, List.length_append, List.length_map, List.length_set, List.length_replicate]; omega) | (intro h; simp [h]; done)) | (intro _; constructor <;> omega)
           refine fin_then ?_
           refine tri_cond (b := ((((Cn.backF (Cn.elU N L fz g) (allV N.toNat (m : Int))).length : Int) != ((allV N.toNat (m : Int)).length : Int)) || (!(Cn.valV N L (Cn.backF (Cn.elU N L fz g) (allV N.toNat (m : Int))))))) (by kernel_rfl) (fun hb8 => ?_) (fun hb8 => ?_)
           ·
            skip
            have h8 := hb8
            exact (Cn.mods_111 hM hN9 hvx h8).elim
           ·
            skip
            have h8 := hb8
            try simp only [Bool.or_eq_true, Bool.or_eq_false_iff, Bool.and_eq_true, Bool.and_eq_false_iff, Bool.not_eq_true', Bool.not_eq_false', decide_eq_true_eq, decide_eq_false_iff_not, bne_iff_ne, bne_eq_false_iff_eq, beq_iff_eq, beq_eq_false_iff_ne] at h8
            refine tri_skip ?_
            refine fin_then ?_
            refine tri_seq ?_
            refine tri_regD hcx [] [113, 114] [16, 14, 3, 7, 8, 10, 78, 79] [10, 607] [] [(113, .int ((Cn.backF (Cn.elU N L fz g) (allV N.toNat (m : Int))).length : Int)), (114, .int 0)] [] (by kernel_rfl) ?_ ?_
            ·
             exact az
            refine fin_then ?_
            refine tri_block ?_
            refine tri_loop (X := Nat) (fun x0 => x0 ≤ (Cn.backF (Cn.elU N L fz g) (allV N.toNat (m : Int))).length) (fun x0 => [(3, .pto [.int N, .ls (.intss L)]), (7, .loc 607 0), (8, .undos (Cn.elU N L fz g)), (10, .row 10), (14, .bools (allV N.toNat (m : Int))), (16, .bools (Cn.backF (Cn.elU N L fz g) (allV N.toNat (m : Int)))), (78, .int (1 * 2 ^ N.toNat)), (79, .int (m : Int)), (113, .int ((Cn.backF (Cn.elU N L fz g) (allV N.toNat (m : Int))).length : Int)), (114, .int (x0 : Int))]) (fun x0 => [(10, .row 4 (.bools (Cn.goneL N ((Cn.elU N L fz g).take i)))), (607, .box [.int (Cn.elN N L fz g), .intss (Cn.elX N L fz g)])]) (fun x0 => (Cn.backF (Cn.elU N L fz g) (allV N.toNat (m : Int))).length - x0) (0) ?_ ?_ ?_ ?_
            ·
             show 0 ≤ (Cn.backF (Cn.elU N L fz g) (allV N.toNat (m : Int))).length
             omega
            ·
             exact subE_mk (l := [.pto [.int N, .ls (.intss L)], .loc 607 0, .undos (Cn.elU N L fz g), .row 10, .bools (allV N.toNat (m : Int)), .bools (Cn.backF (Cn.elU N L fz g) (allV N.toNat (m : Int))), .int (1 * 2 ^ N.toNat), .int (m : Int), .int ((Cn.backF (Cn.elU N L fz g) (allV N.toNat (m : Int))).length : Int), .int 0]) (m := [.pto [.int N, .ls (.intss L)], .loc 607 0, .undos (Cn.elU N L fz g), .row 10, .bools (allV N.toNat (m : Int)), .bools (Cn.backF (Cn.elU N L fz g) (allV N.toNat (m : Int))), .int (1 * 2 ^ N.toNat), .int (m : Int), .int ((Cn.backF (Cn.elU N L fz g) (allV N.toNat (m : Int))).length : Int), .int (0 : Int)]) (by kernel_rfl) (by kernel_rfl) (consE rfl (consE rfl (consE rfl (consE rfl (consE rfl (consE rfl (consE rfl (consE rfl (consE rfl (consE (congrArg AV.int (show 0 = (0 : Int) from (by first | rfl | omega | (simp; done)))) rfl))))))))))
            ·
             kernel_rfl
            ·
             intro j hI
             replace hI : j ≤ (Cn.backF (Cn.elU N L fz g) (allV N.toNat (m : Int))).length := hI
             change Tri _ [(3, .pto [.int N, .ls (.intss L)]), (7, .loc 607 0), (8, .undos (Cn.elU N L fz g)), (10, .row 10), (14, .bools (allV N.toNat (m : Int))), (16, .bools (Cn.backF (Cn.elU N L fz g) (allV N.toNat (m : Int)))), (78, .int (1 * 2 ^ N.toNat)), (79, .int (m : Int)), (113, .int ((Cn.backF (Cn.elU N L fz g) (allV N.toNat (m : Int))).length : Int)), (114, .int (j : Int))] [(10, .row 4 (.bools (Cn.goneL N ((Cn.elU N L fz g).take i)))), (607, .box [.int (Cn.elN N L fz g), .intss (Cn.elX N L fz g)])] _ _
             refine tri_seq ?_
             refine tri_regD hcx [] [115] [3, 7, 8, 10, 14, 16, 78, 79, 113, 114] [10, 607] [] [(115, .bool (decide ((j : Int) < ((Cn.backF (Cn.elU N L fz g) (allV N.toNat (m : Int))).length : Int))))] [] (by kernel_rfl) ?_ ?_
             ·
              exact az
             refine fin_then ?_
             refine tri_seq ?_
             refine tri_cond (b := (decide ((j : Int) < ((Cn.backF (Cn.elU N L fz g) (allV N.toNat (m : Int))).length : Int)))) (by kernel_rfl) (fun hb9 => ?_) (fun hb9 => ?_)
             ·
              skip
              have h9 := of_decide_eq_true hb9
              refine tri_skip ?_
              refine fin_then ?_
              refine tri_seq ?_
              refine tri_block ?_
              refine tri_seq ?_
              refine tri_regD hcx [] [17] [3, 7, 8, 10, 14, 16, 78, 79, 113, 114] [10, 607] [] [(17, .int (j : Int))] [] (by kernel_rfl) ?_ ?_
              ·
               exact az
              refine fin_then ?_
              refine tri_seq ?_
              refine tri_drawD [0, 0, 3, 7, 0, 0, 48, 112, 255, 511, 1023, 1023, 4095, 8191, 16383, 32767] hcx hmx [] [132] [3, 7, 8, 10, 14, 16, 78, 79, 113, 114] [10, 607] [((0 : Int) ≤ (j : Int) ∧ (j : Int) < ((allV N.toNat (m : Int)).length : Int)), ((0 : Int) ≤ (j : Int) ∧ (j : Int) < ((Cn.backF (Cn.elU N L fz g) (allV N.toNat (m : Int))).length : Int)), ((!(((allV N.toNat (m : Int)).getD j false) == ((Cn.backF (Cn.elU N L fz g) (allV N.toNat (m : Int))).getD j false))) = true → ((!(((allV N.toNat (m : Int)).getD j false) == ((Cn.backF (Cn.elU N L fz g) (allV N.toNat (m : Int))).getD j false))) = true)), ((!(((allV N.toNat (m : Int)).getD j false) == ((Cn.backF (Cn.elU N L fz g) (allV N.toNat (m : Int))).getD j false))) = true → ((!(((allV N.toNat (m : Int)).getD j false) == ((Cn.backF (Cn.elU N L fz g) (allV N.toNat (m : Int))).getD j false))) = true)), ((!(((allV N.toNat (m : Int)).getD j false) == ((Cn.backF (Cn.elU N L fz g) (allV N.toNat (m : Int))).getD j false))) = true → ((0 : Int) ≤ (j : Int) ∧ (j : Int) < ((Cn.goneL N ((Cn.elU N L fz g).take i)).length : Int))), ((!(((allV N.toNat (m : Int)).getD j false) == ((Cn.backF (Cn.elU N L fz g) (allV N.toNat (m : Int))).getD j false))) = true → ((!(((allV N.toNat (m : Int)).getD j false) == ((Cn.backF (Cn.elU N L fz g) (allV N.toNat (m : Int))).getD j false))) = true)), ((!(((allV N.toNat (m : Int)).getD j false) == ((Cn.backF (Cn.elU N L fz g) (allV N.toNat (m : Int))).getD j false))) = true → (j < (Cn.goneL N ((Cn.elU N L fz g).take i)).length)), ((!(((allV N.toNat (m : Int)).getD j false) == ((Cn.backF (Cn.elU N L fz g) (allV N.toNat (m : Int))).getD j false))) = true → ((!(((allV N.toNat (m : Int)).getD j false) == ((Cn.backF (Cn.elU N L fz g) (allV N.toNat (m : Int))).getD j false))) = true)), ((!(((allV N.toNat (m : Int)).getD j false) == ((Cn.backF (Cn.elU N L fz g) (allV N.toNat (m : Int))).getD j false))) = true → (!(((allV N.toNat (m : Int)).getD j false) == ((Cn.backF (Cn.elU N L fz g) (allV N.toNat (m : Int))).getD j false))) = true)] [(132, .bool ((!(((allV N.toNat (m : Int)).getD j false) == ((Cn.backF (Cn.elU N L fz g) (allV N.toNat (m : Int))).getD j false))) && (!((Cn.goneL N ((Cn.elU N L fz g).take i)).getD j false))))] [] (by kernel_rfl) ?_ ?_
              ·
               refine (ap ?_ (ap ?_ (ap ?_ (ap ?_ (ap ?_ (ap ?_ (ap ?_ (ap ?_ (ap (by exact id) az)))))))))
               all_goals
                first | omega | exact True.intro | exact id | exact hp.1 | exact hpe | exact (fun _ h => h) | exact ⟨hp.1, by decide, by decide⟩ | exact ⟨hx1, hx2⟩ | exact (fun _ => ⟨hx1, hx2⟩) | exact (fun _ => ⟨hu1, hu2⟩) | (constructor <;> omega) | (have := hv (by omega); omega) | (have := hv (by omega); constructor <;> omega) | exact ⟨hx1, hx2, hal m⟩ | exact ⟨hp.1, hlm, hal m⟩ | exact (fun _ => ⟨hp.1, hlm, hbm⟩) | exact ⟨hu1, hu2, by omega⟩ | (have := hp2; constructor <;> omega) | (first | omega | exact id | exact vcNot | exact vcG | exact vcH | (intro _; omega) | exact (fun _ h => h) | (intro h; simp at h; omega) | (simp only [List.length_cons, List.length_nil, List.length_append, List.length_map, List.length_set, List.length_replicate]; omega) | (intro h; simp [h]; done)) | (intro _; constructor <;> omega)
              refine fin_then ?_
              refine tri_cond (b := ((!(((allV N.toNat (m : Int)).getD j false) == ((Cn.backF (Cn.elU N L fz g) (allV N.toNat (m : Int))).getD j false))) && (!((Cn.goneL N ((Cn.elU N L fz g).take i)).getD j false)))) (by kernel_rfl) (fun hb10 => ?_) (fun hb10 => ?_)
              ·
               skip
               have h10 := hb10
               (rw [show i = (Cn.elU N L fz g).length from (by omega), List.take_length] at h10; exact (Cn.mods_132 hM (by have := hM.len; rw [allV_len] at this; omega) h10).elim)
              ·
               skip
               have h10 := hb10
               try simp only [Bool.or_eq_true, Bool.or_eq_false_iff, Bool.and_eq_true, Bool.and_eq_false_iff, Bool.not_eq_true', Bool.not_eq_false', decide_eq_true_eq, decide_eq_false_iff_not, bne_iff_ne, bne_eq_false_iff_eq, beq_iff_eq, beq_eq_false_iff_ne] at h10
               refine tri_skip ?_
               refine fin_block ?_
               refine fin_then ?_
               refine tri_regD hcx [] [114] [3, 7, 8, 10, 14, 16, 78, 79, 113] [10, 607] [Fit ((j : Int) + 1)] [(114, .int ((j : Int) + 1))] [] (by kernel_rfl) ?_ ?_
               ·
                refine (ap ?_ az)
                first | omega | exact True.intro | exact id | exact hp.1 | exact hpe | exact (fun _ h => h) | exact ⟨hp.1, by decide, by decide⟩ | exact ⟨hx1, hx2⟩ | exact (fun _ => ⟨hx1, hx2⟩) | exact (fun _ => ⟨hu1, hu2⟩) | (constructor <;> omega) | (have := hv (by omega); omega) | (have := hv (by omega); constructor <;> omega) | exact ⟨hx1, hx2, hal m⟩ | exact ⟨hp.1, hlm, hal m⟩ | exact (fun _ => ⟨hp.1, hlm, hbm⟩) | exact ⟨hu1, hu2, by omega⟩ | (have := hp2; constructor <;> omega) | (first | omega | exact id | exact vcNot | exact vcG | exact vcH | (intro _; omega) | exact (fun _ h => h) | (intro h; simp at h; omega) | (simp only [List.length_cons, List.length_nil, List.length_append, List.length_map, List.length_set, List.length_replicate]; omega) | (intro h; simp [h]; done)) | (intro _; constructor <;> omega)
               refine fin_round (j + 1) ?_ ?_ ?_ ?_
               ·
                show (j + 1) ≤ (Cn.backF (Cn.elU N L fz g) (allV N.toNat (m : Int))).length
                omega
               ·
                show (Cn.backF (Cn.elU N L fz g) (allV N.toNat (m : Int))).length - (j + 1) < (Cn.backF (Cn.elU N L fz g) (allV N.toNat (m : Int))).length - j
                omega
               ·
                exact subE_mk (l := [.pto [.int N, .ls (.intss L)], .loc 607 0, .undos (Cn.elU N L fz g), .row 10, .bools (allV N.toNat (m : Int)), .bools (Cn.backF (Cn.elU N L fz g) (allV N.toNat (m : Int))), .int (1 * 2 ^ N.toNat), .int (m : Int), .int ((Cn.backF (Cn.elU N L fz g) (allV N.toNat (m : Int))).length : Int), .int ((j : Int) + 1)]) (m := [.pto [.int N, .ls (.intss L)], .loc 607 0, .undos (Cn.elU N L fz g), .row 10, .bools (allV N.toNat (m : Int)), .bools (Cn.backF (Cn.elU N L fz g) (allV N.toNat (m : Int))), .int (1 * 2 ^ N.toNat), .int (m : Int), .int ((Cn.backF (Cn.elU N L fz g) (allV N.toNat (m : Int))).length : Int), .int ((j + 1) : Int)]) (by kernel_rfl) (by kernel_rfl) (consE rfl (consE rfl (consE rfl (consE rfl (consE rfl (consE rfl (consE rfl (consE rfl (consE rfl (consE (congrArg AV.int (show ((j : Int) + 1) = ((j + 1) : Int) from (by first | rfl | omega | (simp; done)))) rfl))))))))))
               ·
                kernel_rfl
             ·
              skip
              have h9 := of_decide_eq_false hb9
              refine tri_exit ?_
              refine fin_then_exit ?_
              refine fin_then_exit ?_
              refine fin_block_same ?_
              refine fin_block ?_
              refine fin_then ?_
              refine tri_regD hcx [] [79] [3, 7, 8, 10, 78] [10, 607] [Fit ((m : Int) + 1)] [(79, .int ((m : Int) + 1))] [] (by kernel_rfl) ?_ ?_
              ·
               refine (ap ?_ az)
               first | omega | exact True.intro | exact id | exact hp.1 | exact hpe | exact (fun _ h => h) | exact ⟨hp.1, by decide, by decide⟩ | exact ⟨hx1, hx2⟩ | exact (fun _ => ⟨hx1, hx2⟩) | exact (fun _ => ⟨hu1, hu2⟩) | (constructor <;> omega) | (have := hv (by omega); omega) | (have := hv (by omega); constructor <;> omega) | exact ⟨hx1, hx2, hal m⟩ | exact ⟨hp.1, hlm, hal m⟩ | exact (fun _ => ⟨hp.1, hlm, hbm⟩) | exact ⟨hu1, hu2, by omega⟩ | (have := hp2; constructor <;> omega) | (first | omega | exact id | exact vcNot | exact vcG | exact vcH | (intro _; omega) | exact (fun _ h => h) | (intro h; simp at h; omega) | (simp only [List.length_cons, List.length_nil, List.length_append, List.length_map, List.length_set, List.length_replicate]; omega) | (intro h; simp [h]; done)) | (intro _; constructor <;> omega)
              refine fin_round (m + 1) ?_ ?_ ?_ ?_
              ·
               show ((m + 1) : Int) ≤ 1 * 2 ^ N.toNat
               omega
              ·
               show (1 * 2 ^ N.toNat : Int).toNat - (m + 1) < (1 * 2 ^ N.toNat : Int).toNat - m
               omega
              ·
               exact subE_mk (l := [.pto [.int N, .ls (.intss L)], .loc 607 0, .undos (Cn.elU N L fz g), .row 10, .int (1 * 2 ^ N.toNat), .int ((m : Int) + 1)]) (m := [.pto [.int N, .ls (.intss L)], .loc 607 0, .undos (Cn.elU N L fz g), .row 10, .int (1 * 2 ^ N.toNat), .int ((m + 1) : Int)]) (by kernel_rfl) (by kernel_rfl) (consE rfl (consE rfl (consE rfl (consE rfl (consE rfl (consE (congrArg AV.int (show ((m : Int) + 1) = ((m + 1) : Int) from (by first | rfl | omega | (simp; done)))) rfl))))))
              ·
               kernel_rfl
        ·
         skip
         have h5 := of_decide_eq_false hb5
         refine tri_exit ?_
         refine fin_then_exit ?_
         refine fin_then_exit ?_
         refine fin_block_same ?_
         refine fin_then ?_
         refine tri_seq ?_
         refine tri_regD hcx [] [6] [] [] [] [(6, .bool true)] [] (by kernel_rfl) ?_ ?_
         ·
          exact az
         refine fin_then ?_
         refine tri_ret ?_
         exact fin_ret [] rfl rfl trivial hcx (avs := [.bool true]) (by kernel_rfl) rfl [] rfl
 ·
  cases hσ
end Go.Proofs.Ythhfdjcaafckbaa.En
