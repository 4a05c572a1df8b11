/- The laws ElimAll, ElimGone, ElimSteps and ElimModels of layer 23, in the reader's words. -/
import Derived.Test.YthhfdjcaafckbaaLaw23S
import Derived.Test.YthhfdjcaafckbaaLaw23V
import Derived.Test.YthhfdjcaafckbaaElimT
import Derived.Test.YthhfdjcaafckbaaAllX
import Derived.Test.YthhfdjcaafckbaaEngFrz
namespace Go.Proofs.Ythhfdjcaafckbaa.En
open Go Go.RowKit
set_option linter.unusedVariables false
set_option linter.unusedSimpArgs false
set_option linter.unnecessarySimpa false
def tyL23U2 : List (Nat × TD) := [(3, ⟨1, false, [.int .i64 0], [], none, 8, false, 1, 1⟩),
  (4, ⟨1, false, [.bool false], [], none, 1, true, 0, 2⟩),
  (22, ⟨1, false, [.slice none 0 0], [], some 43, 24, false, 0, 0⟩),
  (24, ⟨2, true, [.int .i64 0, .slice none 0 0], [(0, 3), (1, 22)], none, 32, false, 0, 6⟩),
  (28, ⟨2, true, [.int .i64 0, .slice none 0 0], [(0, 3), (1, 22)], none, 32, false, 0, 6⟩),
  (29, ⟨1, false, [.int .i64 0], [], none, 8, false, 1, 1⟩),
  (34, ⟨1, false, [.slice none 0 0], [], some 28, 24, false, 0, 0⟩),
  (36, ⟨1, false, [.slice none 0 0], [], some 4, 24, false, 0, 0⟩),
  (43, ⟨1, false, [.slice none 0 0], [], some 3, 24, false, 0, 3⟩)]
theorem tyL23U2_ok : AllTy Try.prog tyL23U2 := ⟨⟨by kernel_rfl, by kernel_rfl⟩, ⟨by kernel_rfl, by kernel_rfl⟩, ⟨by kernel_rfl, by kernel_rfl⟩, ⟨by kernel_rfl, by kernel_rfl⟩, ⟨by kernel_rfl, by kernel_rfl⟩, ⟨by kernel_rfl, by kernel_rfl⟩, ⟨by kernel_rfl, by kernel_rfl⟩, ⟨by kernel_rfl, by kernel_rfl⟩, ⟨by kernel_rfl, by kernel_rfl⟩, trivial⟩
def cx_elimGone : Cx := ⟨tyL23U2, [(12, (frzF (coeF [.agg [.id, .ld (.intss [])], .id] eOutF_σ))), (18, (frzF (coeF [.ld (.undos []), .ld (.bools [])] eBack_σ))), (22, (coeF [.agg [.id, .ld (.intss [])], .ld (.ints []), .id] eElim_σ)), (23, (coeF [.agg [.id, .ld (.intss [])], .ld (.ints []), .id] qElim_σ)), (11, (coeF [.agg [.id, .ld (.intss [])], .id, .id] qFew_σ)), (24, (coeF [.ld (.ints []), .id] qHas_σ)), (15, (coeF [.ld (.undos []), .ld (.undos [])] qUndos_σ)), (14, (coeF [.agg [.id, .ld (.intss [])], .agg [.id, .ld (.intss [])]] rSame_σ)), (21, (coeF [.agg [.id, .ld (.intss [])], .ld (.bools [])] cValue_σ)), (25, (coeF [.agg [.id, .ld (.intss [])]] cCheck_σ)), (20, sAll), (10, live23_σ)]⟩
theorem cx_elimGone_ok : CxOk Try.prog cx_elimGone := cx_ok tyL23U2_ok ⟨((eOutF_sound.coe [.agg [.id, .ld (.intss [])], .id] rfl)).frz, ((eBack_sound.coe [.ld (.undos []), .ld (.bools [])] rfl)).frz, (eElim_sound.coe [.agg [.id, .ld (.intss [])], .ld (.ints []), .id] rfl), (qElim_sound.coe [.agg [.id, .ld (.intss [])], .ld (.ints []), .id] rfl), (qFew_sound.coe [.agg [.id, .ld (.intss [])], .id, .id] rfl), (qHas_sound.coe [.ld (.ints []), .id] rfl), (qUndos_sound.coe [.ld (.undos []), .ld (.undos [])] rfl), (rSame_sound.coe [.agg [.id, .ld (.intss [])], .agg [.id, .ld (.intss [])]] rfl), (cValue_sound.coe [.agg [.id, .ld (.intss [])], .ld (.bools [])] rfl), (cCheck_sound.coe [.agg [.id, .ld (.intss [])]] rfl), sAll_sound, live23_sound, trivial⟩
def elimGone_σ : CtF
  | [.agg [.im (.val (.int .i64 N)), .im (.ls (.intss L))], .im (.ls (.ints fz)), .im (.val (.int .i64 g))], [] => some (L.length ≤ maxLen ∧ fz.length ≤ maxLen, .bool true, [])
  | _, _ => none
theorem elimGone_sound : Sound Try.prog 7 elimGone_σ := by
 refine sound_mk (cx := cx_elimGone) (fn := Try.f7) Try.func7 (by kernel_rfl) rfl ?_
 intro w0 G0 args os p r outs hσ hp hm0 hd0
 have hcx : CxOk Try.prog cx_elimGone := cx_elimGone_ok
 unfold elimGone_σ at hσ
 split at hσ
 ·
  rename_i N L fz g
  simp only [Option.some.injEq, Prod.mk.injEq] at hσ
  obtain ⟨rfl, rfl, rfl⟩ := hσ
  obtain ⟨wW, wO, wm, wβ, wd⟩ := w0
  replace hm0 : wm = 0 := hm0
  subst hm0
  replace hd0 : wd = [] := hd0
  subst hd0
  refine ⟨by kernel_rfl, ?_⟩
  change Tri ⟨_, _, _, _, _, _⟩ [(0, .agg [.int N, .intss L]), (1, .ints fz), (2, .int g)] [] _ _
  have hfm := hp.2
  unfold maxLen at hfm
  refine tri_seq ?_
  refine tri_regD hcx [(1000, .frz)] [3] [1, 2] [] [] [(3, .pto [.int N, .ls (.intss L)])] [] (by kernel_rfl) ?_ ?_
  ·
   exact az
  refine fin_then ?_
  refine tri_seq ?_
  refine tri_seq ?_
  refine tri_regD hcx [] [20] [3, 1, 2] [] [(True)] [(20, .bool (!true))] [] (by kernel_rfl) ?_ ?_
  ·
   refine (ap ?_ az)
   first | omega | exact True.intro | exact id | exact hp.1 | exact hpe | exact (fun _ h => h) | exact ⟨hp.1, by decide, by decide⟩ | exact ⟨hx1, hx2⟩ | exact (fun _ => ⟨hx1, hx2⟩) | exact (fun _ => ⟨hu1, hu2⟩) | (constructor <;> omega) | (have := hv (by omega); exact ⟨hx2 _ (Cn.getD_memL (by omega)), by omega, by omega⟩) | (have := hv (by omega); exact ⟨hwl (by omega) _ (Cn.getD_memL (by omega)), by omega, by omega⟩) | (first | omega | exact id | exact vcNot | exact vcG | exact vcH | (intro _; omega) | exact (fun _ h => h) | (intro h; simp at h; omega) | (simp only [List.length_cons, List.length_nil, List.length_append, List.length_map, List.length_set, List.length_replicate]; omega) | (intro h; simp [h]; done))
  refine fin_then ?_
  refine tri_cond (b := (!true)) (by kernel_rfl) (fun hb0 => ?_) (fun hb0 => ?_)
  ·
   skip
   have h0 := hb0
   cases h0
  ·
   skip
   have h0 := (notB_f hb0)
   refine tri_skip ?_
   refine fin_then ?_
   refine tri_seq ?_
   refine tri_seq ?_
   refine tri_regD hcx [] [32] [3, 1, 2] [] [(L.length ≤ maxLen ∧ 0 ≤ (40 : Int) ∧ (40 : Int) ≤ 1000000), ((!(!(Cn.fewB N L (30 : Int) (40 : Int)))) = true → ((!(!(Cn.fewB N L (30 : Int) (40 : Int)))) = true)), ((!(!(Cn.fewB N L (30 : Int) (40 : Int)))) = true → ((!(!(Cn.fewB N L (30 : Int) (40 : Int)))) = true)), ((!(Cn.fewB N L (30 : Int) (40 : Int))) = false → (!(!(Cn.fewB N L (30 : Int) (40 : Int)))) = true), ((!((!(Cn.fewB N L (30 : Int) (40 : Int))) || (decide ((fz.length : Int) > 40)))) = true → ((!((!(Cn.fewB N L (30 : Int) (40 : Int))) || (decide ((fz.length : Int) > 40)))) = true)), (((!(Cn.fewB N L (30 : Int) (40 : Int))) || (decide ((fz.length : Int) > 40))) = false → (!((!(Cn.fewB N L (30 : Int) (40 : Int))) || (decide ((fz.length : Int) > 40)))) = true)] [(32, .bool (((!(Cn.fewB N L (30 : Int) (40 : Int))) || (decide ((fz.length : Int) > 40))) || (decide (g > 40))))] [] (by kernel_rfl) ?_ ?_
   ·
    refine (ap ?_ (ap ?_ (ap ?_ (ap (by exact vcNot) (ap ?_ (ap (by exact vcNot) az))))))
    all_goals
     first | omega | exact True.intro | exact id | exact hp.1 | exact hpe | exact (fun _ h => h) | exact ⟨hp.1, by decide, by decide⟩ | exact ⟨hx1, hx2⟩ | exact (fun _ => ⟨hx1, hx2⟩) | exact (fun _ => ⟨hu1, hu2⟩) | (constructor <;> omega) | (have := hv (by omega); exact ⟨hx2 _ (Cn.getD_memL (by omega)), by omega, by omega⟩) | (have := hv (by omega); exact ⟨hwl (by omega) _ (Cn.getD_memL (by omega)), by omega, by omega⟩) | (first | omega | exact id | exact vcNot | exact vcG | exact vcH | (intro _; omega) | exact (fun _ h => h) | (intro h; simp at h; omega) | (simp only [List.length_cons, List.length_nil, List.length_append, List.length_map, List.length_set, List.length_replicate]; omega) | (intro h; simp [h]; done))
   refine fin_then ?_
   refine tri_cond (b := (((!(Cn.fewB N L (30 : Int) (40 : Int))) || (decide ((fz.length : Int) > 40))) || (decide (g > 40)))) (by kernel_rfl) (fun hb1 => ?_) (fun hb1 => ?_)
   ·
    skip
    have h1 := hb1
    try simp only [Bool.or_eq_true, Bool.or_eq_false_iff, Bool.and_eq_true, Bool.and_eq_false_iff, Bool.not_eq_true', Bool.not_eq_false', decide_eq_true_eq, decide_eq_false_iff_not, bne_iff_ne, bne_eq_false_iff_eq, beq_iff_eq, beq_eq_false_iff_ne] at h1
    refine tri_seq ?_
    refine tri_regD hcx [] [6] [] [] [] [(6, .bool true)] [] (by kernel_rfl) ?_ ?_
    ·
     exact az
    refine fin_then ?_
    refine tri_ret ?_
    refine fin_then_ret ?_
    exact fin_ret [] rfl rfl trivial hcx (avs := [.bool true]) (by kernel_rfl) rfl [] rfl
   ·
    skip
    have h1 := hb1
    obtain ⟨⟨hf1, hf2, hs20⟩, hf4, hf5⟩ := Cn.few3 h1
    obtain ⟨⟨hx1, hx2⟩, hu1, hu2⟩ := Cn.el_bd (fz := fz) (g := g) (N := N) (L := L) (by omega) (by omega) hs20 (by omega)
    have hpe : L.length ≤ 40 ∧ (∀ l ∈ L, l.length ≤ 20) ∧ N ≤ 30 ∧ fz.length ≤ maxLen ∧ (g ≤ 40 ∨ 1099511627776 < g) := ⟨by omega, hs20, by omega, hp.2, by omega⟩
    have hlm : ∀ l ∈ L, l.length ≤ maxLen := fun l hl => by have := hs20 l hl; unfold maxLen; omega
    have hx3 := hx1
    have hu3 := hu1
    unfold maxLen at hx3 hu3
    refine tri_skip ?_
    refine fin_then ?_
    refine tri_seq ?_
    refine tri_regD hcx [(1008, .to 607)] [7, 8, 9] [3, 1, 2] [] [(L.length ≤ 40 ∧ (∀ l ∈ L, l.length ≤ 20) ∧ N ≤ 30 ∧ fz.length ≤ maxLen ∧ (g ≤ 40 ∨ 1099511627776 < g))] [(7, .loc 607 0), (8, .undos (Cn.elU N L fz g)), (9, .int (Cn.elE N L fz g))] [(607, .box [.int (Cn.elN N L fz g), .intss (Cn.elX N L fz g)])] (by kernel_rfl) ?_ ?_
    ·
     refine (ap ?_ az)
     first | omega | exact True.intro | exact id | exact hp.1 | exact hpe | exact (fun _ h => h) | exact ⟨hp.1, by decide, by decide⟩ | exact ⟨hx1, hx2⟩ | exact (fun _ => ⟨hx1, hx2⟩) | exact (fun _ => ⟨hu1, hu2⟩) | (constructor <;> omega) | (have := hv (by omega); exact ⟨hx2 _ (Cn.getD_memL (by omega)), by omega, by omega⟩) | (have := hv (by omega); exact ⟨hwl (by omega) _ (Cn.getD_memL (by omega)), by omega, by omega⟩) | (first | omega | exact id | exact vcNot | exact vcG | exact vcH | (intro _; omega) | exact (fun _ h => h) | (intro h; simp at h; omega) | (simp only [List.length_cons, List.length_nil, List.length_append, List.length_map, List.length_set, List.length_replicate]; omega) | (intro h; simp [h]; done))
    refine fin_then ?_
    refine tri_seq ?_
    refine tri_seq ?_
    refine tri_regD hcx [] [42] [7, 8, 3, 1, 2] [607] [] [(42, .bool ((Cn.elE N L fz g) != 0))] [] (by kernel_rfl) ?_ ?_
    ·
     exact az
    refine fin_then ?_
    refine tri_cond (b := ((Cn.elE N L fz g) != 0)) (by kernel_rfl) (fun hb2 => ?_) (fun hb2 => ?_)
    ·
     skip
     have h2 := bne_iff_ne.1 hb2
     obtain ⟨hA, hB, hC, hE⟩ := Cn.el_no (e := Cn.elE N L fz g) rfl h2
     refine tri_seq ?_
     refine tri_regD hcx [] [6] [] [] [] [(6, .bool (((Cn.elX N L fz g).length : Int) == 0))] [] (by kernel_rfl) ?_ ?_
     ·
      exact az
     refine fin_then ?_
     refine tri_ret ?_
     refine fin_then_ret ?_
     exact fin_ret [] rfl rfl trivial hcx (avs := [.bool (((Cn.elX N L fz g).length : Int) == 0)]) (by kernel_rfl) (congrArg AV.bool (show (((Cn.elX N L fz g).length : Int) == 0) = true from (by rw [hB]; rfl))) [] rfl
    ·
     skip
     have h2 := bneF hb2
     have hE0 : Cn.elE N L fz g = 0 := h2
     obtain ⟨hN9, hX9, hU9, _⟩ := Cn.el_ok hE0
     have hG := Cn.el_gone (by omega) (by omega) hs20 (by omega) hE0
     have hnum := hG.num
     have hg0 := (Cn.el_yes hE0).2.1
     have hN0 := (Cn.chkV_0.1 hG.chk).1.1
     have hgu : (0 : Int) ≤ g * ((Cn.elU N L fz g).length : Int) ∧ g * ((Cn.elU N L fz g).length : Int) ≤ 1200 := Cn.mul_bd (Cn.el_yes hE0).2.1 (by omega) (by omega)
     refine tri_skip ?_
     refine fin_then ?_
     refine tri_seq ?_
     refine tri_regD hcx [] [10] [7, 8, 3, 1, 2] [607] [] [(10, .int 0)] [] (by kernel_rfl) ?_ ?_
     ·
      exact az
     refine fin_then ?_
     refine tri_seq ?_
     refine tri_seq ?_
     refine tri_regD hcx [] [47, 48, 49] [10, 7, 8, 3, 1, 2] [607] [] [(47, .undos (Cn.elU N L fz g)), (48, .int ((Cn.elU N L fz g).length : Int)), (49, .int 0)] [] (by kernel_rfl) ?_ ?_
     ·
      exact az
     refine fin_then ?_
     refine tri_block ?_
     refine tri_loop (X := Nat) (fun x0 => x0 ≤ (Cn.elU N L fz g).length) (fun x0 => [(1, .ints fz), (2, .int g), (3, .pto [.int N, .ls (.intss L)]), (7, .loc 607 0), (8, .undos (Cn.elU N L fz g)), (10, .int (Cn.lastV (Cn.elU N L fz g) x0)), (47, .undos (Cn.elU N L fz g)), (48, .int ((Cn.elU N L fz g).length : Int)), (49, .int (x0 : Int))]) (fun x0 => [(607, .box [.int (Cn.elN N L fz g), .intss (Cn.elX N L fz g)])]) (fun x0 => (Cn.elU N L fz g).length - x0) (0) ?_ ?_ ?_ ?_
     ·
      show 0 ≤ (Cn.elU N L fz g).length
      omega
     ·
      exact subE_mk (l := [.ints fz, .int g, .pto [.int N, .ls (.intss L)], .loc 607 0, .undos (Cn.elU N L fz g), .int 0, .undos (Cn.elU N L fz g), .int ((Cn.elU N L fz g).length : Int), .int 0]) (m := [.ints fz, .int g, .pto [.int N, .ls (.intss L)], .loc 607 0, .undos (Cn.elU N L fz g), .int (Cn.lastV (Cn.elU N L fz g) 0), .undos (Cn.elU N L fz g), .int ((Cn.elU N L fz g).length : Int), .int (0 : Int)]) (by kernel_rfl) (by kernel_rfl) (consE rfl (consE rfl (consE rfl (consE rfl (consE rfl (consE (congrArg AV.int (show 0 = (Cn.lastV (Cn.elU N L fz g) 0) from (by rfl))) (consE rfl (consE rfl (consE (congrArg AV.int (show 0 = (0 : Int) from (by first | rfl | omega | (simp; done)))) rfl)))))))))
     ·
      kernel_rfl
     ·
      intro i hI
      replace hI : i ≤ (Cn.elU N L fz g).length := hI
      change Tri _ [(1, .ints fz), (2, .int g), (3, .pto [.int N, .ls (.intss L)]), (7, .loc 607 0), (8, .undos (Cn.elU N L fz g)), (10, .int (Cn.lastV (Cn.elU N L fz g) i)), (47, .undos (Cn.elU N L fz g)), (48, .int ((Cn.elU N L fz g).length : Int)), (49, .int (i : Int))] [(607, .box [.int (Cn.elN N L fz g), .intss (Cn.elX N L fz g)])] _ _
      have hst : i < (Cn.elU N L fz g).length → _ := fun h => hG.step i h
      have hv : i < (Cn.elU N L fz g).length → 1 ≤ ((Cn.elU N L fz g).getD i (0, [])).1 ∧ ((Cn.elU N L fz g).getD i (0, [])).1 ≤ 65536 := fun h => ⟨(hst h).v1, by have := (hst h).v2; omega⟩
      have hw : i < (Cn.elU N L fz g).length → ((Cn.elU N L fz g).getD i (0, [])).2.length ≤ 9223372036854775807 := fun h => (hu2 _ (Cn.getD_memL h)).1
      have hwl : i < (Cn.elU N L fz g).length → ∀ l ∈ ((Cn.elU N L fz g).getD i (0, [])).2, l.length ≤ maxLen := fun h => (hu2 _ (Cn.getD_memL h)).2
      refine tri_seq ?_
      refine tri_regD hcx [] [50] [1, 2, 3, 7, 8, 10, 47, 48, 49] [607] [] [(50, .bool (decide ((i : Int) < ((Cn.elU N L fz g).length : Int))))] [] (by kernel_rfl) ?_ ?_
      ·
       exact az
      refine fin_then ?_
      refine tri_seq ?_
      refine tri_cond (b := (decide ((i : Int) < ((Cn.elU N L fz g).length : Int)))) (by kernel_rfl) (fun hb3 => ?_) (fun hb3 => ?_)
      ·
       skip
       have h3 := of_decide_eq_true hb3
       refine tri_skip ?_
       refine fin_then ?_
       refine tri_seq ?_
       refine tri_block ?_
       refine tri_seq ?_
       refine tri_regD hcx [(1002, .to 612)] [12] [1, 2, 3, 7, 8, 10, 47, 48, 49] [607] [((0 : Int) ≤ (i : Int) ∧ (i : Int) < ((Cn.elU N L fz g).length : Int))] [(12, .loc 612 0)] [(612, .box [.int (((Cn.elU N L fz g).getD i (0, [])).1), .intss (((Cn.elU N L fz g).getD i (0, [])).2)])] (by kernel_rfl) ?_ ?_
       ·
        refine (ap ?_ az)
        first | omega | exact True.intro | exact id | exact hp.1 | exact hpe | exact (fun _ h => h) | exact ⟨hp.1, by decide, by decide⟩ | exact ⟨hx1, hx2⟩ | exact (fun _ => ⟨hx1, hx2⟩) | exact (fun _ => ⟨hu1, hu2⟩) | (constructor <;> omega) | (have := hv (by omega); exact ⟨hx2 _ (Cn.getD_memL (by omega)), by omega, by omega⟩) | (have := hv (by omega); exact ⟨hwl (by omega) _ (Cn.getD_memL (by omega)), by omega, by omega⟩) | (first | omega | exact id | exact vcNot | exact vcG | exact vcH | (intro _; omega) | exact (fun _ h => h) | (intro h; simp at h; omega) | (simp only [List.length_cons, List.length_nil, List.length_append, List.length_map, List.length_set, List.length_replicate]; omega) | (intro h; simp [h]; done))
       refine fin_then ?_
       refine tri_seq ?_
       refine tri_seq ?_
       refine tri_regD hcx [] [62] [12, 1, 2, 3, 7, 8, 47, 48, 49] [612, 607] [((!(decide (((Cn.elU N L fz g).getD i (0, [])).1 ≤ (Cn.lastV (Cn.elU N L fz g) i)))) = true → ((!(decide (((Cn.elU N L fz g).getD i (0, [])).1 ≤ (Cn.lastV (Cn.elU N L fz g) i)))) = true)), ((!(decide (((Cn.elU N L fz g).getD i (0, [])).1 ≤ (Cn.lastV (Cn.elU N L fz g) i)))) = true → ((!(decide (((Cn.elU N L fz g).getD i (0, [])).1 ≤ (Cn.lastV (Cn.elU N L fz g) i)))) = true)), ((!(decide (((Cn.elU N L fz g).getD i (0, [])).1 ≤ (Cn.lastV (Cn.elU N L fz g) i)))) = true → ((!(decide (((Cn.elU N L fz g).getD i (0, [])).1 ≤ (Cn.lastV (Cn.elU N L fz g) i)))) = true)), ((decide (((Cn.elU N L fz g).getD i (0, [])).1 ≤ (Cn.lastV (Cn.elU N L fz g) i))) = false → (!(decide (((Cn.elU N L fz g).getD i (0, [])).1 ≤ (Cn.lastV (Cn.elU N L fz g) i)))) = true)] [(62, .bool ((decide (((Cn.elU N L fz g).getD i (0, [])).1 ≤ (Cn.lastV (Cn.elU N L fz g) i))) || (((((Cn.elU N L fz g).getD i (0, [])).2).length : Int) == 0)))] [] (by kernel_rfl) ?_ ?_
       ·
        refine (ap ?_ (ap ?_ (ap ?_ (ap (by exact vcNot) az))))
        all_goals
         first | omega | exact True.intro | exact id | exact hp.1 | exact hpe | exact (fun _ h => h) | exact ⟨hp.1, by decide, by decide⟩ | exact ⟨hx1, hx2⟩ | exact (fun _ => ⟨hx1, hx2⟩) | exact (fun _ => ⟨hu1, hu2⟩) | (constructor <;> omega) | (have := hv (by omega); exact ⟨hx2 _ (Cn.getD_memL (by omega)), by omega, by omega⟩) | (have := hv (by omega); exact ⟨hwl (by omega) _ (Cn.getD_memL (by omega)), by omega, by omega⟩) | (first | omega | exact id | exact vcNot | exact vcG | exact vcH | (intro _; omega) | exact (fun _ h => h) | (intro h; simp at h; omega) | (simp only [List.length_cons, List.length_nil, List.length_append, List.length_map, List.length_set, List.length_replicate]; omega) | (intro h; simp [h]; done))
       refine fin_then ?_
       refine tri_cond (b := ((decide (((Cn.elU N L fz g).getD i (0, [])).1 ≤ (Cn.lastV (Cn.elU N L fz g) i))) || (((((Cn.elU N L fz g).getD i (0, [])).2).length : Int) == 0))) (by kernel_rfl) (fun hb4 => ?_) (fun hb4 => ?_)
       ·
        skip
        have h4 := hb4
        exact (Cn.gone_inc hG (by omega) h4).elim
       ·
        skip
        have h4 := hb4
        try simp only [Bool.or_eq_true, Bool.or_eq_false_iff, Bool.and_eq_true, Bool.and_eq_false_iff, Bool.not_eq_true', Bool.not_eq_false', decide_eq_true_eq, decide_eq_false_iff_not, bne_iff_ne, bne_eq_false_iff_eq, beq_iff_eq, beq_eq_false_iff_ne] at h4
        refine tri_skip ?_
        refine fin_then ?_
        refine tri_seq ?_
        refine tri_regD hcx [] [10] [12, 1, 2, 3, 7, 8, 47, 48, 49] [612, 607] [] [(10, .int (((Cn.elU N L fz g).getD i (0, [])).1))] [] (by kernel_rfl) ?_ ?_
        ·
         exact az
        refine fin_then ?_
        refine tri_seq ?_
        refine tri_seq ?_
        refine tri_regD hcx [] [65, 66, 67] [10, 12, 1, 2, 3, 7, 8, 47, 48, 49] [612, 607] [] [(65, .ints fz), (66, .int (fz.length : Int)), (67, .int 0)] [] (by kernel_rfl) ?_ ?_
        ·
         exact az
        refine fin_then ?_
        refine tri_block ?_
        refine tri_ren (ρ := [(607, .to 607), (612, .to 612)]) (keys := [1, 2, 3, 7, 8, 10, 12, 47, 48, 49, 65, 66, 67]) (E' := [(1, .ints fz), (2, .int g), (3, .pto [.int N, .ls (.intss L)]), (7, .loc 607 0), (8, .undos (Cn.elU N L fz g)), (10, .int (((Cn.elU N L fz g).getD i (0, [])).1)), (12, .loc 612 0), (47, .undos (Cn.elU N L fz g)), (48, .int ((Cn.elU N L fz g).length : Int)), (49, .int (i : Int)), (65, .ints fz), (66, .int (fz.length : Int)), (67, .int 0)]) (H' := [(607, .box [.int (Cn.elN N L fz g), .intss (Cn.elX N L fz g)]), (612, .box [.int (((Cn.elU N L fz g).getD i (0, [])).1), .intss (((Cn.elU N L fz g).getD i (0, [])).2)])]) (by kernel_rfl) ?_
        refine tri_loop (X := Nat) (fun x0 => x0 ≤ fz.length) (fun x0 => [(1, .ints fz), (2, .int g), (3, .pto [.int N, .ls (.intss L)]), (7, .loc 607 0), (8, .undos (Cn.elU N L fz g)), (10, .int (((Cn.elU N L fz g).getD i (0, [])).1)), (12, .loc 612 0), (47, .undos (Cn.elU N L fz g)), (48, .int ((Cn.elU N L fz g).length : Int)), (49, .int (i : Int)), (65, .ints fz), (66, .int (fz.length : Int)), (67, .int (x0 : Int))]) (fun x0 => [(607, .box [.int (Cn.elN N L fz g), .intss (Cn.elX N L fz g)]), (612, .box [.int (((Cn.elU N L fz g).getD i (0, [])).1), .intss (((Cn.elU N L fz g).getD i (0, [])).2)])]) (fun x0 => fz.length - x0) (0) ?_ ?_ ?_ ?_
        ·
         show 0 ≤ fz.length
         omega
        ·
         exact subE_mk (l := [.ints fz, .int g, .pto [.int N, .ls (.intss L)], .loc 607 0, .undos (Cn.elU N L fz g), .int (((Cn.elU N L fz g).getD i (0, [])).1), .loc 612 0, .undos (Cn.elU N L fz g), .int ((Cn.elU N L fz g).length : Int), .int (i : Int), .ints fz, .int (fz.length : Int), .int 0]) (m := [.ints fz, .int g, .pto [.int N, .ls (.intss L)], .loc 607 0, .undos (Cn.elU N L fz g), .int (((Cn.elU N L fz g).getD i (0, [])).1), .loc 612 0, .undos (Cn.elU N L fz g), .int ((Cn.elU N L fz g).length : Int), .int (i : Int), .ints fz, .int (fz.length : Int), .int (0 : Int)]) (by kernel_rfl) (by kernel_rfl) (consE rfl (consE rfl (consE rfl (consE rfl (consE rfl (consE rfl (consE rfl (consE rfl (consE rfl (consE rfl (consE rfl (consE rfl (consE (congrArg AV.int (show 0 = (0 : Int) from (by first | rfl | omega | (simp; done)))) rfl)))))))))))))
        ·
         kernel_rfl
        ·
         intro j hI
         replace hI : j ≤ fz.length := hI
         change Tri _ [(1, .ints fz), (2, .int g), (3, .pto [.int N, .ls (.intss L)]), (7, .loc 607 0), (8, .undos (Cn.elU N L fz g)), (10, .int (((Cn.elU N L fz g).getD i (0, [])).1)), (12, .loc 612 0), (47, .undos (Cn.elU N L fz g)), (48, .int ((Cn.elU N L fz g).length : Int)), (49, .int (i : Int)), (65, .ints fz), (66, .int (fz.length : Int)), (67, .int (j : Int))] [(607, .box [.int (Cn.elN N L fz g), .intss (Cn.elX N L fz g)]), (612, .box [.int (((Cn.elU N L fz g).getD i (0, [])).1), .intss (((Cn.elU N L fz g).getD i (0, [])).2)])] _ _
         refine tri_seq ?_
         refine tri_regD hcx [] [68] [1, 2, 3, 7, 8, 10, 12, 47, 48, 49, 65, 66, 67] [607, 612] [] [(68, .bool (decide ((j : Int) < (fz.length : Int))))] [] (by kernel_rfl) ?_ ?_
         ·
          exact az
         refine fin_then ?_
         refine tri_seq ?_
         refine tri_cond (b := (decide ((j : Int) < (fz.length : Int)))) (by kernel_rfl) (fun hb5 => ?_) (fun hb5 => ?_)
         ·
          skip
          have h5 := of_decide_eq_true hb5
          refine tri_skip ?_
          refine fin_then ?_
          refine tri_seq ?_
          refine tri_block ?_
          refine tri_seq ?_
          refine tri_regD hcx [] [14] [1, 2, 3, 7, 8, 10, 12, 47, 48, 49, 65, 66, 67] [607, 612] [((0 : Int) ≤ (j : Int) ∧ (j : Int) < (fz.length : Int))] [(14, .int (fz.getD j 0))] [] (by kernel_rfl) ?_ ?_
          ·
           refine (ap ?_ az)
           first | omega | exact True.intro | exact id | exact hp.1 | exact hpe | exact (fun _ h => h) | exact ⟨hp.1, by decide, by decide⟩ | exact ⟨hx1, hx2⟩ | exact (fun _ => ⟨hx1, hx2⟩) | exact (fun _ => ⟨hu1, hu2⟩) | (constructor <;> omega) | (have := hv (by omega); exact ⟨hx2 _ (Cn.getD_memL (by omega)), by omega, by omega⟩) | (have := hv (by omega); exact ⟨hwl (by omega) _ (Cn.getD_memL (by omega)), by omega, by omega⟩) | (first | omega | exact id | exact vcNot | exact vcG | exact vcH | (intro _; omega) | exact (fun _ h => h) | (intro h; simp at h; omega) | (simp only [List.length_cons, List.length_nil, List.length_append, List.length_map, List.length_set, List.length_replicate]; omega) | (intro h; simp [h]; done))
          refine fin_then ?_
          refine tri_seq ?_
          refine tri_regD hcx [] [74] [1, 2, 3, 7, 8, 10, 12, 47, 48, 49, 65, 66, 67] [607, 612] [] [(74, .bool ((fz.getD j 0) == (((Cn.elU N L fz g).getD i (0, [])).1)))] [] (by kernel_rfl) ?_ ?_
          ·
           exact az
          refine fin_then ?_
          refine tri_cond (b := ((fz.getD j 0) == (((Cn.elU N L fz g).getD i (0, [])).1))) (by kernel_rfl) (fun hb6 => ?_) (fun hb6 => ?_)
          ·
           skip
           have h6 := eq_of_beq hb6
           (have hz9 := (hst (by omega)).fr; rw [Cn.has_yes (k := j) (by omega) h6] at hz9; cases hz9)
          ·
           skip
           have h6 := neB hb6
           refine tri_skip ?_
           refine fin_block ?_
           refine fin_then ?_
           refine tri_regD hcx [] [67] [1, 2, 3, 7, 8, 10, 12, 47, 48, 49, 65, 66] [607, 612] [Fit ((j : Int) + 1)] [(67, .int ((j : Int) + 1))] [] (by kernel_rfl) ?_ ?_
           ·
            refine (ap ?_ az)
            first | omega | exact True.intro | exact id | exact hp.1 | exact hpe | exact (fun _ h => h) | exact ⟨hp.1, by decide, by decide⟩ | exact ⟨hx1, hx2⟩ | exact (fun _ => ⟨hx1, hx2⟩) | exact (fun _ => ⟨hu1, hu2⟩) | (constructor <;> omega) | (have := hv (by omega); exact ⟨hx2 _ (Cn.getD_memL (by omega)), by omega, by omega⟩) | (have := hv (by omega); exact ⟨hwl (by omega) _ (Cn.getD_memL (by omega)), by omega, by omega⟩) | (first | omega | exact id | exact vcNot | exact vcG | exact vcH | (intro _; omega) | exact (fun _ h => h) | (intro h; simp at h; omega) | (simp only [List.length_cons, List.length_nil, List.length_append, List.length_map, List.length_set, List.length_replicate]; omega) | (intro h; simp [h]; done))
           refine fin_round (j + 1) ?_ ?_ ?_ ?_
           ·
            show (j + 1) ≤ fz.length
            omega
           ·
            show fz.length - (j + 1) < fz.length - j
            omega
           ·
            exact subE_mk (l := [.ints fz, .int g, .pto [.int N, .ls (.intss L)], .loc 607 0, .undos (Cn.elU N L fz g), .int (((Cn.elU N L fz g).getD i (0, [])).1), .loc 612 0, .undos (Cn.elU N L fz g), .int ((Cn.elU N L fz g).length : Int), .int (i : Int), .ints fz, .int (fz.length : Int), .int ((j : Int) + 1)]) (m := [.ints fz, .int g, .pto [.int N, .ls (.intss L)], .loc 607 0, .undos (Cn.elU N L fz g), .int (((Cn.elU N L fz g).getD i (0, [])).1), .loc 612 0, .undos (Cn.elU N L fz g), .int ((Cn.elU N L fz g).length : Int), .int (i : Int), .ints fz, .int (fz.length : Int), .int ((j + 1) : Int)]) (by kernel_rfl) (by kernel_rfl) (consE rfl (consE rfl (consE rfl (consE rfl (consE rfl (consE rfl (consE rfl (consE rfl (consE rfl (consE rfl (consE rfl (consE rfl (consE (congrArg AV.int (show ((j : Int) + 1) = ((j + 1) : Int) from (by first | rfl | omega | (simp; done)))) rfl)))))))))))))
           ·
            kernel_rfl
         ·
          skip
          have h5 := of_decide_eq_false hb5
          refine tri_exit ?_
          refine fin_then_exit ?_
          refine fin_then_exit ?_
          refine fin_block_same ?_
          refine fin_then ?_
          refine tri_seq ?_
          refine tri_seq ?_
          refine tri_regD hcx [] [77, 78, 79] [1, 2, 3, 7, 8, 10, 12, 47, 48, 49] [607, 612] [] [(77, .intss (Cn.elX N L fz g)), (78, .int ((Cn.elX N L fz g).length : Int)), (79, .int 0)] [] (by kernel_rfl) ?_ ?_
          ·
           exact az
          refine fin_then ?_
          refine tri_block ?_
          refine tri_loop (X := Nat) (fun x0 => x0 ≤ (Cn.elX N L fz g).length) (fun x0 => [(1, .ints fz), (2, .int g), (3, .pto [.int N, .ls (.intss L)]), (7, .loc 607 0), (8, .undos (Cn.elU N L fz g)), (10, .int (((Cn.elU N L fz g).getD i (0, [])).1)), (12, .loc 612 0), (47, .undos (Cn.elU N L fz g)), (48, .int ((Cn.elU N L fz g).length : Int)), (49, .int (i : Int)), (77, .intss (Cn.elX N L fz g)), (78, .int ((Cn.elX N L fz g).length : Int)), (79, .int (x0 : Int))]) (fun x0 => [(607, .box [.int (Cn.elN N L fz g), .intss (Cn.elX N L fz g)]), (612, .box [.int (((Cn.elU N L fz g).getD i (0, [])).1), .intss (((Cn.elU N L fz g).getD i (0, [])).2)])]) (fun x0 => (Cn.elX N L fz g).length - x0) (0) ?_ ?_ ?_ ?_
          ·
           show 0 ≤ (Cn.elX N L fz g).length
           omega
          ·
           exact subE_mk (l := [.ints fz, .int g, .pto [.int N, .ls (.intss L)], .loc 607 0, .undos (Cn.elU N L fz g), .int (((Cn.elU N L fz g).getD i (0, [])).1), .loc 612 0, .undos (Cn.elU N L fz g), .int ((Cn.elU N L fz g).length : Int), .int (i : Int), .intss (Cn.elX N L fz g), .int ((Cn.elX N L fz g).length : Int), .int 0]) (m := [.ints fz, .int g, .pto [.int N, .ls (.intss L)], .loc 607 0, .undos (Cn.elU N L fz g), .int (((Cn.elU N L fz g).getD i (0, [])).1), .loc 612 0, .undos (Cn.elU N L fz g), .int ((Cn.elU N L fz g).length : Int), .int (i : Int), .intss (Cn.elX N L fz g), .int ((Cn.elX N L fz g).length : Int), .int (0 : Int)]) (by kernel_rfl) (by kernel_rfl) (consE rfl (consE rfl (consE rfl (consE rfl (consE rfl (consE rfl (consE rfl (consE rfl (consE rfl (consE rfl (consE rfl (consE rfl (consE (congrArg AV.int (show 0 = (0 : Int) from (by first | rfl | omega | (simp; done)))) rfl)))))))))))))
          ·
           kernel_rfl
          ·
           intro j hI
           replace hI : j ≤ (Cn.elX N L fz g).length := hI
           change Tri _ [(1, .ints fz), (2, .int g), (3, .pto [.int N, .ls (.intss L)]), (7, .loc 607 0), (8, .undos (Cn.elU N L fz g)), (10, .int (((Cn.elU N L fz g).getD i (0, [])).1)), (12, .loc 612 0), (47, .undos (Cn.elU N L fz g)), (48, .int ((Cn.elU N L fz g).length : Int)), (49, .int (i : Int)), (77, .intss (Cn.elX N L fz g)), (78, .int ((Cn.elX N L fz g).length : Int)), (79, .int (j : Int))] [(607, .box [.int (Cn.elN N L fz g), .intss (Cn.elX N L fz g)]), (612, .box [.int (((Cn.elU N L fz g).getD i (0, [])).1), .intss (((Cn.elU N L fz g).getD i (0, [])).2)])] _ _
           refine tri_seq ?_
           refine tri_regD hcx [] [80] [1, 2, 3, 7, 8, 10, 12, 47, 48, 49, 77, 78, 79] [607, 612] [] [(80, .bool (decide ((j : Int) < ((Cn.elX N L fz g).length : Int))))] [] (by kernel_rfl) ?_ ?_
           ·
            exact az
           refine fin_then ?_
           refine tri_seq ?_
           refine tri_cond (b := (decide ((j : Int) < ((Cn.elX N L fz g).length : Int)))) (by kernel_rfl) (fun hb7 => ?_) (fun hb7 => ?_)
           ·
            skip
            have h7 := of_decide_eq_true hb7
            refine tri_skip ?_
            refine fin_then ?_
            refine tri_seq ?_
            refine tri_block ?_
            refine tri_seq ?_
            refine tri_regD hcx [] [16] [1, 2, 3, 7, 8, 10, 12, 47, 48, 49, 77, 78, 79] [607, 612] [((0 : Int) ≤ (j : Int) ∧ (j : Int) < ((Cn.elX N L fz g).length : Int))] [(16, .ints ((Cn.elX N L fz g).getD j []))] [] (by kernel_rfl) ?_ ?_
            ·
             refine (ap ?_ az)
             first | omega | exact True.intro | exact id | exact hp.1 | exact hpe | exact (fun _ h => h) | exact ⟨hp.1, by decide, by decide⟩ | exact ⟨hx1, hx2⟩ | exact (fun _ => ⟨hx1, hx2⟩) | exact (fun _ => ⟨hu1, hu2⟩) | (constructor <;> omega) | (have := hv (by omega); exact ⟨hx2 _ (Cn.getD_memL (by omega)), by omega, by omega⟩) | (have := hv (by omega); exact ⟨hwl (by omega) _ (Cn.getD_memL (by omega)), by omega, by omega⟩) | (first | omega | exact id | exact vcNot | exact vcG | exact vcH | (intro _; omega) | exact (fun _ h => h) | (intro h; simp at h; omega) | (simp only [List.length_cons, List.length_nil, List.length_append, List.length_map, List.length_set, List.length_replicate]; omega) | (intro h; simp [h]; done))
            refine fin_then ?_
            refine tri_seq ?_
            refine tri_regD hcx [] [86] [1, 2, 3, 7, 8, 10, 12, 47, 48, 49, 77, 78, 79] [607, 612] [(((Cn.elX N L fz g).getD j []).length ≤ maxLen ∧ -65536 ≤ (((Cn.elU N L fz g).getD i (0, [])).1) ∧ (((Cn.elU N L fz g).getD i (0, [])).1) ≤ 65536)] [(86, .bool (Cn.hasV (((Cn.elU N L fz g).getD i (0, [])).1) ((Cn.elX N L fz g).getD j [])))] [] (by kernel_rfl) ?_ ?_
            ·
             refine (ap ?_ az)
             first | omega | exact True.intro | exact id | exact hp.1 | exact hpe | exact (fun _ h => h) | exact ⟨hp.1, by decide, by decide⟩ | exact ⟨hx1, hx2⟩ | exact (fun _ => ⟨hx1, hx2⟩) | exact (fun _ => ⟨hu1, hu2⟩) | (constructor <;> omega) | (have := hv (by omega); exact ⟨hx2 _ (Cn.getD_memL (by omega)), by omega, by omega⟩) | (have := hv (by omega); exact ⟨hwl (by omega) _ (Cn.getD_memL (by omega)), by omega, by omega⟩) | (first | omega | exact id | exact vcNot | exact vcG | exact vcH | (intro _; omega) | exact (fun _ h => h) | (intro h; simp at h; omega) | (simp only [List.length_cons, List.length_nil, List.length_append, List.length_map, List.length_set, List.length_replicate]; omega) | (intro h; simp [h]; done))
            refine fin_then ?_
            refine tri_cond (b := (Cn.hasV (((Cn.elU N L fz g).getD i (0, [])).1) ((Cn.elX N L fz g).getD j []))) (by kernel_rfl) (fun hb8 => ?_) (fun hb8 => ?_)
            ·
             skip
             have h8 := hb8
             (have hz9 := hG.out _ (Cn.getD_memL (d := (0, [])) (show i < (Cn.elU N L fz g).length by omega)) _ (Cn.getD_memL (d := []) (show j < (Cn.elX N L fz g).length by omega)); rw [hz9] at h8; cases h8)
            ·
             skip
             have h8 := hb8
             refine tri_skip ?_
             refine fin_block ?_
             refine fin_then ?_
             refine tri_regD hcx [] [79] [1, 2, 3, 7, 8, 10, 12, 47, 48, 49, 77, 78] [607, 612] [Fit ((j : Int) + 1)] [(79, .int ((j : Int) + 1))] [] (by kernel_rfl) ?_ ?_
             ·
              refine (ap ?_ az)
              first | omega | exact True.intro | exact id | exact hp.1 | exact hpe | exact (fun _ h => h) | exact ⟨hp.1, by decide, by decide⟩ | exact ⟨hx1, hx2⟩ | exact (fun _ => ⟨hx1, hx2⟩) | exact (fun _ => ⟨hu1, hu2⟩) | (constructor <;> omega) | (have := hv (by omega); exact ⟨hx2 _ (Cn.getD_memL (by omega)), by omega, by omega⟩) | (have := hv (by omega); exact ⟨hwl (by omega) _ (Cn.getD_memL (by omega)), by omega, by omega⟩) | (first | omega | exact id | exact vcNot | exact vcG | exact vcH | (intro _; omega) | exact (fun _ h => h) | (intro h; simp at h; omega) | (simp only [List.length_cons, List.length_nil, List.length_append, List.length_map, List.length_set, List.length_replicate]; omega) | (intro h; simp [h]; done))
             refine fin_round (j + 1) ?_ ?_ ?_ ?_
             ·
              show (j + 1) ≤ (Cn.elX N L fz g).length
              omega
             ·
              show (Cn.elX N L fz g).length - (j + 1) < (Cn.elX N L fz g).length - j
              omega
             ·
              exact subE_mk (l := [.ints fz, .int g, .pto [.int N, .ls (.intss L)], .loc 607 0, .undos (Cn.elU N L fz g), .int (((Cn.elU N L fz g).getD i (0, [])).1), .loc 612 0, .undos (Cn.elU N L fz g), .int ((Cn.elU N L fz g).length : Int), .int (i : Int), .intss (Cn.elX N L fz g), .int ((Cn.elX N L fz g).length : Int), .int ((j : Int) + 1)]) (m := [.ints fz, .int g, .pto [.int N, .ls (.intss L)], .loc 607 0, .undos (Cn.elU N L fz g), .int (((Cn.elU N L fz g).getD i (0, [])).1), .loc 612 0, .undos (Cn.elU N L fz g), .int ((Cn.elU N L fz g).length : Int), .int (i : Int), .intss (Cn.elX N L fz g), .int ((Cn.elX N L fz g).length : Int), .int ((j + 1) : Int)]) (by kernel_rfl) (by kernel_rfl) (consE rfl (consE rfl (consE rfl (consE rfl (consE rfl (consE rfl (consE rfl (consE rfl (consE rfl (consE rfl (consE rfl (consE rfl (consE (congrArg AV.int (show ((j : Int) + 1) = ((j + 1) : Int) from (by first | rfl | omega | (simp; done)))) rfl)))))))))))))
             ·
              kernel_rfl
           ·
            skip
            have h7 := of_decide_eq_false hb7
            refine tri_exit ?_
            refine fin_then_exit ?_
            refine fin_then_exit ?_
            refine fin_block_same ?_
            refine fin_then ?_
            refine tri_seq ?_
            refine tri_regD hcx [] [89, 90, 91] [1, 2, 3, 7, 8, 10, 12, 47, 48, 49] [607, 612] [] [(89, .intss (((Cn.elU N L fz g).getD i (0, [])).2)), (90, .int ((((Cn.elU N L fz g).getD i (0, [])).2).length : Int)), (91, .int 0)] [] (by kernel_rfl) ?_ ?_
            ·
             exact az
            refine fin_then ?_
            refine tri_block ?_
            refine tri_loop (X := Nat) (fun x0 => x0 ≤ ((Cn.elU N L fz g).getD i (0, [])).2.length) (fun x0 => [(1, .ints fz), (2, .int g), (3, .pto [.int N, .ls (.intss L)]), (7, .loc 607 0), (8, .undos (Cn.elU N L fz g)), (10, .int (((Cn.elU N L fz g).getD i (0, [])).1)), (12, .loc 612 0), (47, .undos (Cn.elU N L fz g)), (48, .int ((Cn.elU N L fz g).length : Int)), (49, .int (i : Int)), (89, .intss (((Cn.elU N L fz g).getD i (0, [])).2)), (90, .int ((((Cn.elU N L fz g).getD i (0, [])).2).length : Int)), (91, .int (x0 : Int))]) (fun x0 => [(607, .box [.int (Cn.elN N L fz g), .intss (Cn.elX N L fz g)]), (612, .box [.int (((Cn.elU N L fz g).getD i (0, [])).1), .intss (((Cn.elU N L fz g).getD i (0, [])).2)])]) (fun x0 => ((Cn.elU N L fz g).getD i (0, [])).2.length - x0) (0) ?_ ?_ ?_ ?_
            ·
             show 0 ≤ ((Cn.elU N L fz g).getD i (0, [])).2.length
             omega
            ·
             exact subE_mk (l := [.ints fz, .int g, .pto [.int N, .ls (.intss L)], .loc 607 0, .undos (Cn.elU N L fz g), .int (((Cn.elU N L fz g).getD i (0, [])).1), .loc 612 0, .undos (Cn.elU N L fz g), .int ((Cn.elU N L fz g).length : Int), .int (i : Int), .intss (((Cn.elU N L fz g).getD i (0, [])).2), .int ((((Cn.elU N L fz g).getD i (0, [])).2).length : Int), .int 0]) (m := [.ints fz, .int g, .pto [.int N, .ls (.intss L)], .loc 607 0, .undos (Cn.elU N L fz g), .int (((Cn.elU N L fz g).getD i (0, [])).1), .loc 612 0, .undos (Cn.elU N L fz g), .int ((Cn.elU N L fz g).length : Int), .int (i : Int), .intss (((Cn.elU N L fz g).getD i (0, [])).2), .int ((((Cn.elU N L fz g).getD i (0, [])).2).length : Int), .int (0 : Int)]) (by kernel_rfl) (by kernel_rfl) (consE rfl (consE rfl (consE rfl (consE rfl (consE rfl (consE rfl (consE rfl (consE rfl (consE rfl (consE rfl (consE rfl (consE rfl (consE (congrArg AV.int (show 0 = (0 : Int) from (by first | rfl | omega | (simp; done)))) rfl)))))))))))))
            ·
             kernel_rfl
            ·
             intro j hI
             replace hI : j ≤ ((Cn.elU N L fz g).getD i (0, [])).2.length := hI
             change Tri _ [(1, .ints fz), (2, .int g), (3, .pto [.int N, .ls (.intss L)]), (7, .loc 607 0), (8, .undos (Cn.elU N L fz g)), (10, .int (((Cn.elU N L fz g).getD i (0, [])).1)), (12, .loc 612 0), (47, .undos (Cn.elU N L fz g)), (48, .int ((Cn.elU N L fz g).length : Int)), (49, .int (i : Int)), (89, .intss (((Cn.elU N L fz g).getD i (0, [])).2)), (90, .int ((((Cn.elU N L fz g).getD i (0, [])).2).length : Int)), (91, .int (j : Int))] [(607, .box [.int (Cn.elN N L fz g), .intss (Cn.elX N L fz g)]), (612, .box [.int (((Cn.elU N L fz g).getD i (0, [])).1), .intss (((Cn.elU N L fz g).getD i (0, [])).2)])] _ _
             have hw7 := hw (by omega)
             refine tri_seq ?_
             refine tri_regD hcx [] [92] [1, 2, 3, 7, 8, 10, 12, 47, 48, 49, 89, 90, 91] [607, 612] [] [(92, .bool (decide ((j : Int) < ((((Cn.elU N L fz g).getD i (0, [])).2).length : Int))))] [] (by kernel_rfl) ?_ ?_
             ·
              exact az
             refine fin_then ?_
             refine tri_seq ?_
             refine tri_cond (b := (decide ((j : Int) < ((((Cn.elU N L fz g).getD i (0, [])).2).length : Int)))) (by kernel_rfl) (fun hb9 => ?_) (fun hb9 => ?_)
             ·
              skip
              have h9 := of_decide_eq_true hb9
              refine tri_skip ?_
              refine fin_then ?_
              refine tri_seq ?_
              refine tri_block ?_
              refine tri_seq ?_
              refine tri_regD hcx [] [18] [1, 2, 3, 7, 8, 10, 12, 47, 48, 49, 89, 90, 91] [607, 612] [((0 : Int) ≤ (j : Int) ∧ (j : Int) < ((((Cn.elU N L fz g).getD i (0, [])).2).length : Int))] [(18, .ints ((((Cn.elU N L fz g).getD i (0, [])).2).getD j []))] [] (by kernel_rfl) ?_ ?_
              ·
               refine (ap ?_ az)
               first | omega | exact True.intro | exact id | exact hp.1 | exact hpe | exact (fun _ h => h) | exact ⟨hp.1, by decide, by decide⟩ | exact ⟨hx1, hx2⟩ | exact (fun _ => ⟨hx1, hx2⟩) | exact (fun _ => ⟨hu1, hu2⟩) | (constructor <;> omega) | (have := hv (by omega); exact ⟨hx2 _ (Cn.getD_memL (by omega)), by omega, by omega⟩) | (have := hv (by omega); exact ⟨hwl (by omega) _ (Cn.getD_memL (by omega)), by omega, by omega⟩) | (first | omega | exact id | exact vcNot | exact vcG | exact vcH | (intro _; omega) | exact (fun _ h => h) | (intro h; simp at h; omega) | (simp only [List.length_cons, List.length_nil, List.length_append, List.length_map, List.length_set, List.length_replicate]; omega) | (intro h; simp [h]; done))
              refine fin_then ?_
              refine tri_seq ?_
              refine tri_regD hcx [] [99] [1, 2, 3, 7, 8, 10, 12, 47, 48, 49, 89, 90, 91] [607, 612] [(((((Cn.elU N L fz g).getD i (0, [])).2).getD j []).length ≤ maxLen ∧ -65536 ≤ (((Cn.elU N L fz g).getD i (0, [])).1) ∧ (((Cn.elU N L fz g).getD i (0, [])).1) ≤ 65536)] [(99, .bool (!(Cn.hasV (((Cn.elU N L fz g).getD i (0, [])).1) ((((Cn.elU N L fz g).getD i (0, [])).2).getD j []))))] [] (by kernel_rfl) ?_ ?_
              ·
               refine (ap ?_ az)
               first | omega | exact True.intro | exact id | exact hp.1 | exact hpe | exact (fun _ h => h) | exact ⟨hp.1, by decide, by decide⟩ | exact ⟨hx1, hx2⟩ | exact (fun _ => ⟨hx1, hx2⟩) | exact (fun _ => ⟨hu1, hu2⟩) | (constructor <;> omega) | (have := hv (by omega); exact ⟨hx2 _ (Cn.getD_memL (by omega)), by omega, by omega⟩) | (have := hv (by omega); exact ⟨hwl (by omega) _ (Cn.getD_memL (by omega)), by omega, by omega⟩) | (first | omega | exact id | exact vcNot | exact vcG | exact vcH | (intro _; omega) | exact (fun _ h => h) | (intro h; simp at h; omega) | (simp only [List.length_cons, List.length_nil, List.length_append, List.length_map, List.length_set, List.length_replicate]; omega) | (intro h; simp [h]; done))
              refine fin_then ?_
              refine tri_cond (b := (!(Cn.hasV (((Cn.elU N L fz g).getD i (0, [])).1) ((((Cn.elU N L fz g).getD i (0, [])).2).getD j [])))) (by kernel_rfl) (fun hb10 => ?_) (fun hb10 => ?_)
              ·
               skip
               have h10 := hb10
               (have hz9 := (hst (by omega)).has _ (Cn.getD_memL (d := []) (show j < ((Cn.elU N L fz g).getD i (0, [])).2.length by omega)); rw [hz9] at h10; cases h10)
              ·
               skip
               have h10 := (notB_f hb10)
               refine tri_skip ?_
               refine fin_block ?_
               refine fin_then ?_
               refine tri_regD hcx [] [91] [1, 2, 3, 7, 8, 10, 12, 47, 48, 49, 89, 90] [607, 612] [Fit ((j : Int) + 1)] [(91, .int ((j : Int) + 1))] [] (by kernel_rfl) ?_ ?_
               ·
                refine (ap ?_ az)
                first | omega | exact True.intro | exact id | exact hp.1 | exact hpe | exact (fun _ h => h) | exact ⟨hp.1, by decide, by decide⟩ | exact ⟨hx1, hx2⟩ | exact (fun _ => ⟨hx1, hx2⟩) | exact (fun _ => ⟨hu1, hu2⟩) | (constructor <;> omega) | (have := hv (by omega); exact ⟨hx2 _ (Cn.getD_memL (by omega)), by omega, by omega⟩) | (have := hv (by omega); exact ⟨hwl (by omega) _ (Cn.getD_memL (by omega)), by omega, by omega⟩) | (first | omega | exact id | exact vcNot | exact vcG | exact vcH | (intro _; omega) | exact (fun _ h => h) | (intro h; simp at h; omega) | (simp only [List.length_cons, List.length_nil, List.length_append, List.length_map, List.length_set, List.length_replicate]; omega) | (intro h; simp [h]; done))
               refine fin_round (j + 1) ?_ ?_ ?_ ?_
               ·
                show (j + 1) ≤ ((Cn.elU N L fz g).getD i (0, [])).2.length
                omega
               ·
                show ((Cn.elU N L fz g).getD i (0, [])).2.length - (j + 1) < ((Cn.elU N L fz g).getD i (0, [])).2.length - j
                omega
               ·
                exact subE_mk (l := [.ints fz, .int g, .pto [.int N, .ls (.intss L)], .loc 607 0, .undos (Cn.elU N L fz g), .int (((Cn.elU N L fz g).getD i (0, [])).1), .loc 612 0, .undos (Cn.elU N L fz g), .int ((Cn.elU N L fz g).length : Int), .int (i : Int), .intss (((Cn.elU N L fz g).getD i (0, [])).2), .int ((((Cn.elU N L fz g).getD i (0, [])).2).length : Int), .int ((j : Int) + 1)]) (m := [.ints fz, .int g, .pto [.int N, .ls (.intss L)], .loc 607 0, .undos (Cn.elU N L fz g), .int (((Cn.elU N L fz g).getD i (0, [])).1), .loc 612 0, .undos (Cn.elU N L fz g), .int ((Cn.elU N L fz g).length : Int), .int (i : Int), .intss (((Cn.elU N L fz g).getD i (0, [])).2), .int ((((Cn.elU N L fz g).getD i (0, [])).2).length : Int), .int ((j + 1) : Int)]) (by kernel_rfl) (by kernel_rfl) (consE rfl (consE rfl (consE rfl (consE rfl (consE rfl (consE rfl (consE rfl (consE rfl (consE rfl (consE rfl (consE rfl (consE rfl (consE (congrArg AV.int (show ((j : Int) + 1) = ((j + 1) : Int) from (by first | rfl | omega | (simp; done)))) rfl)))))))))))))
               ·
                kernel_rfl
             ·
              skip
              have h9 := of_decide_eq_false hb9
              refine tri_exit ?_
              refine fin_then_exit ?_
              refine fin_then_exit ?_
              refine fin_block_same ?_
              refine fin_block ?_
              refine fin_then ?_
              refine tri_regD hcx [] [49] [1, 2, 3, 7, 8, 10, 47, 48] [607] [Fit ((i : Int) + 1)] [(49, .int ((i : Int) + 1))] [] (by kernel_rfl) ?_ ?_
              ·
               refine (ap ?_ az)
               first | omega | exact True.intro | exact id | exact hp.1 | exact hpe | exact (fun _ h => h) | exact ⟨hp.1, by decide, by decide⟩ | exact ⟨hx1, hx2⟩ | exact (fun _ => ⟨hx1, hx2⟩) | exact (fun _ => ⟨hu1, hu2⟩) | (constructor <;> omega) | (have := hv (by omega); exact ⟨hx2 _ (Cn.getD_memL (by omega)), by omega, by omega⟩) | (have := hv (by omega); exact ⟨hwl (by omega) _ (Cn.getD_memL (by omega)), by omega, by omega⟩) | (first | omega | exact id | exact vcNot | exact vcG | exact vcH | (intro _; omega) | exact (fun _ h => h) | (intro h; simp at h; omega) | (simp only [List.length_cons, List.length_nil, List.length_append, List.length_map, List.length_set, List.length_replicate]; omega) | (intro h; simp [h]; done))
              refine fin_round (i + 1) ?_ ?_ ?_ ?_
              ·
               show (i + 1) ≤ (Cn.elU N L fz g).length
               omega
              ·
               show (Cn.elU N L fz g).length - (i + 1) < (Cn.elU N L fz g).length - i
               omega
              ·
               exact subE_mk (l := [.ints fz, .int g, .pto [.int N, .ls (.intss L)], .loc 607 0, .undos (Cn.elU N L fz g), .int (((Cn.elU N L fz g).getD i (0, [])).1), .undos (Cn.elU N L fz g), .int ((Cn.elU N L fz g).length : Int), .int ((i : Int) + 1)]) (m := [.ints fz, .int g, .pto [.int N, .ls (.intss L)], .loc 607 0, .undos (Cn.elU N L fz g), .int (Cn.lastV (Cn.elU N L fz g) (i + 1)), .undos (Cn.elU N L fz g), .int ((Cn.elU N L fz g).length : Int), .int ((i + 1) : Int)]) (by kernel_rfl) (by kernel_rfl) (consE rfl (consE rfl (consE rfl (consE rfl (consE rfl (consE (congrArg AV.int (show ((Cn.elU N L fz g).getD i (0, [])).1 = (Cn.lastV (Cn.elU N L fz g) (i + 1)) from (by exact Cn.lastV_succ))) (consE rfl (consE rfl (consE (congrArg AV.int (show ((i : Int) + 1) = ((i + 1) : Int) from (by first | rfl | omega | (simp; done)))) rfl)))))))))
              ·
               kernel_rfl
      ·
       skip
       have h3 := of_decide_eq_false hb3
       refine tri_exit ?_
       refine fin_then_exit ?_
       refine fin_then_exit ?_
       refine fin_block_same ?_
       refine fin_then ?_
       refine tri_seq ?_
       refine tri_regD hcx [] [6] [] [] [Fit (g * ((Cn.elU N L fz g).length : Int)), Fit ((L.length : Int) + (g * ((Cn.elU N L fz g).length : Int))), ((decide (((Cn.elX N L fz g).length : Int) ≤ ((L.length : Int) + (g * ((Cn.elU N L fz g).length : Int))))) = true → ((decide (((Cn.elX N L fz g).length : Int) ≤ ((L.length : Int) + (g * ((Cn.elU N L fz g).length : Int))))) = true)), ((decide (((Cn.elX N L fz g).length : Int) ≤ ((L.length : Int) + (g * ((Cn.elU N L fz g).length : Int))))) = true → ((decide (((Cn.elX N L fz g).length : Int) ≤ ((L.length : Int) + (g * ((Cn.elU N L fz g).length : Int))))) = true)), ((decide (((Cn.elX N L fz g).length : Int) ≤ ((L.length : Int) + (g * ((Cn.elU N L fz g).length : Int))))) = true → ((decide (((Cn.elX N L fz g).length : Int) ≤ ((L.length : Int) + (g * ((Cn.elU N L fz g).length : Int))))) = true)), ((decide (((Cn.elX N L fz g).length : Int) ≤ ((L.length : Int) + (g * ((Cn.elU N L fz g).length : Int))))) = true → ((decide (((Cn.elX N L fz g).length : Int) ≤ ((L.length : Int) + (g * ((Cn.elU N L fz g).length : Int))))) = true)), ((decide (((Cn.elX N L fz g).length : Int) ≤ ((L.length : Int) + (g * ((Cn.elU N L fz g).length : Int))))) = true → (decide (((Cn.elX N L fz g).length : Int) ≤ ((L.length : Int) + (g * ((Cn.elU N L fz g).length : Int))))) = true), (((decide (((Cn.elX N L fz g).length : Int) ≤ ((L.length : Int) + (g * ((Cn.elU N L fz g).length : Int))))) && ((Cn.elN N L fz g) == N)) = true → (((decide (((Cn.elX N L fz g).length : Int) ≤ ((L.length : Int) + (g * ((Cn.elU N L fz g).length : Int))))) && ((Cn.elN N L fz g) == N)) = true)), (((decide (((Cn.elX N L fz g).length : Int) ≤ ((L.length : Int) + (g * ((Cn.elU N L fz g).length : Int))))) && ((Cn.elN N L fz g) == N)) = true → ((Cn.elX N L fz g).length ≤ maxLen ∧ ∀ l ∈ (Cn.elX N L fz g), l.length ≤ maxLen)), (((decide (((Cn.elX N L fz g).length : Int) ≤ ((L.length : Int) + (g * ((Cn.elU N L fz g).length : Int))))) && ((Cn.elN N L fz g) == N)) = true → (((decide (((Cn.elX N L fz g).length : Int) ≤ ((L.length : Int) + (g * ((Cn.elU N L fz g).length : Int))))) && ((Cn.elN N L fz g) == N)) = true)), (((decide (((Cn.elX N L fz g).length : Int) ≤ ((L.length : Int) + (g * ((Cn.elU N L fz g).length : Int))))) && ((Cn.elN N L fz g) == N)) = true → ((decide (((Cn.elX N L fz g).length : Int) ≤ ((L.length : Int) + (g * ((Cn.elU N L fz g).length : Int))))) && ((Cn.elN N L fz g) == N)) = true), ((((decide (((Cn.elX N L fz g).length : Int) ≤ ((L.length : Int) + (g * ((Cn.elU N L fz g).length : Int))))) && ((Cn.elN N L fz g) == N)) && ((Cn.chkV (Cn.elN N L fz g) (Cn.elX N L fz g)) == 0)) = true → ((((decide (((Cn.elX N L fz g).length : Int) ≤ ((L.length : Int) + (g * ((Cn.elU N L fz g).length : Int))))) && ((Cn.elN N L fz g) == N)) && ((Cn.chkV (Cn.elN N L fz g) (Cn.elX N L fz g)) == 0)) = true)), ((((decide (((Cn.elX N L fz g).length : Int) ≤ ((L.length : Int) + (g * ((Cn.elU N L fz g).length : Int))))) && ((Cn.elN N L fz g) == N)) && ((Cn.chkV (Cn.elN N L fz g) (Cn.elX N L fz g)) == 0)) = true → ((((decide (((Cn.elX N L fz g).length : Int) ≤ ((L.length : Int) + (g * ((Cn.elU N L fz g).length : Int))))) && ((Cn.elN N L fz g) == N)) && ((Cn.chkV (Cn.elN N L fz g) (Cn.elX N L fz g)) == 0)) = true)), ((((decide (((Cn.elX N L fz g).length : Int) ≤ ((L.length : Int) + (g * ((Cn.elU N L fz g).length : Int))))) && ((Cn.elN N L fz g) == N)) && ((Cn.chkV (Cn.elN N L fz g) (Cn.elX N L fz g)) == 0)) = true → ((((decide (((Cn.elX N L fz g).length : Int) ≤ ((L.length : Int) + (g * ((Cn.elU N L fz g).length : Int))))) && ((Cn.elN N L fz g) == N)) && ((Cn.chkV (Cn.elN N L fz g) (Cn.elX N L fz g)) == 0)) = true)), (((((decide (((Cn.elX N L fz g).length : Int) ≤ ((L.length : Int) + (g * ((Cn.elU N L fz g).length : Int))))) && ((Cn.elN N L fz g) == N)) && ((Cn.chkV (Cn.elN N L fz g) (Cn.elX N L fz g)) == 0)) && (!(decide (((Cn.elU N L fz g).length : Int) > 0)))) = true → (((((decide (((Cn.elX N L fz g).length : Int) ≤ ((L.length : Int) + (g * ((Cn.elU N L fz g).length : Int))))) && ((Cn.elN N L fz g) == N)) && ((Cn.chkV (Cn.elN N L fz g) (Cn.elX N L fz g)) == 0)) && (!(decide (((Cn.elU N L fz g).length : Int) > 0)))) = true)), (((((decide (((Cn.elX N L fz g).length : Int) ≤ ((L.length : Int) + (g * ((Cn.elU N L fz g).length : Int))))) && ((Cn.elN N L fz g) == N)) && ((Cn.chkV (Cn.elN N L fz g) (Cn.elX N L fz g)) == 0)) && (!(decide (((Cn.elU N L fz g).length : Int) > 0)))) = true → (((((decide (((Cn.elX N L fz g).length : Int) ≤ ((L.length : Int) + (g * ((Cn.elU N L fz g).length : Int))))) && ((Cn.elN N L fz g) == N)) && ((Cn.chkV (Cn.elN N L fz g) (Cn.elX N L fz g)) == 0)) && (!(decide (((Cn.elU N L fz g).length : Int) > 0)))) = true)), (((((decide (((Cn.elX N L fz g).length : Int) ≤ ((L.length : Int) + (g * ((Cn.elU N L fz g).length : Int))))) && ((Cn.elN N L fz g) == N)) && ((Cn.chkV (Cn.elN N L fz g) (Cn.elX N L fz g)) == 0)) && (!(decide (((Cn.elU N L fz g).length : Int) > 0)))) = true → ((Cn.elX N L fz g).length ≤ maxLen ∧ ∀ l ∈ (Cn.elX N L fz g), l.length ≤ maxLen)), ((((decide (((Cn.elX N L fz g).length : Int) ≤ ((L.length : Int) + (g * ((Cn.elU N L fz g).length : Int))))) && ((Cn.elN N L fz g) == N)) && ((Cn.chkV (Cn.elN N L fz g) (Cn.elX N L fz g)) == 0)) = true → ((((decide (((Cn.elX N L fz g).length : Int) ≤ ((L.length : Int) + (g * ((Cn.elU N L fz g).length : Int))))) && ((Cn.elN N L fz g) == N)) && ((Cn.chkV (Cn.elN N L fz g) (Cn.elX N L fz g)) == 0)) = true)), ((((decide (((Cn.elX N L fz g).length : Int) ≤ ((L.length : Int) + (g * ((Cn.elU N L fz g).length : Int))))) && ((Cn.elN N L fz g) == N)) && ((Cn.chkV (Cn.elN N L fz g) (Cn.elX N L fz g)) == 0)) = true → ((decide (((Cn.elU N L fz g).length : Int) > 0)) = false → ((((decide (((Cn.elX N L fz g).length : Int) ≤ ((L.length : Int) + (g * ((Cn.elU N L fz g).length : Int))))) && ((Cn.elN N L fz g) == N)) && ((Cn.chkV (Cn.elN N L fz g) (Cn.elX N L fz g)) == 0)) && (!(decide (((Cn.elU N L fz g).length : Int) > 0)))) = true)), ((((decide (((Cn.elX N L fz g).length : Int) ≤ ((L.length : Int) + (g * ((Cn.elU N L fz g).length : Int))))) && ((Cn.elN N L fz g) == N)) && ((Cn.chkV (Cn.elN N L fz g) (Cn.elX N L fz g)) == 0)) = true → (((decide (((Cn.elX N L fz g).length : Int) ≤ ((L.length : Int) + (g * ((Cn.elU N L fz g).length : Int))))) && ((Cn.elN N L fz g) == N)) && ((Cn.chkV (Cn.elN N L fz g) (Cn.elX N L fz g)) == 0)) = true)] [(6, .bool ((((decide (((Cn.elX N L fz g).length : Int) ≤ ((L.length : Int) + (g * ((Cn.elU N L fz g).length : Int))))) && ((Cn.elN N L fz g) == N)) && ((Cn.chkV (Cn.elN N L fz g) (Cn.elX N L fz g)) == 0)) && ((decide (((Cn.elU N L fz g).length : Int) > 0)) || (((Cn.elN N L fz g) == N) && decide ((Cn.elX N L fz g) = L)))))] [] (by kernel_rfl) ?_ ?_
       ·
        refine (ap ?_ (ap ?_ (ap ?_ (ap ?_ (ap ?_ (ap ?_ (ap (by exact id) (ap ?_ (ap ?_ (ap ?_ (ap (by exact id) (ap ?_ (ap ?_ (ap ?_ (ap ?_ (ap ?_ (ap ?_ (ap ?_ (ap ?_ (ap (by exact id) az))))))))))))))))))))
        all_goals
         first | omega | exact True.intro | exact id | exact hp.1 | exact hpe | exact (fun _ h => h) | exact ⟨hp.1, by decide, by decide⟩ | exact ⟨hx1, hx2⟩ | exact (fun _ => ⟨hx1, hx2⟩) | exact (fun _ => ⟨hu1, hu2⟩) | (constructor <;> omega) | (have := hv (by omega); exact ⟨hx2 _ (Cn.getD_memL (by omega)), by omega, by omega⟩) | (have := hv (by omega); exact ⟨hwl (by omega) _ (Cn.getD_memL (by omega)), by omega, by omega⟩) | (first | omega | exact id | exact vcNot | exact vcG | exact vcH | (intro _; omega) | exact (fun _ h => h) | (intro h; simp at h; omega) | (simp only [List.length_cons, List.length_nil, List.length_append, List.length_map, List.length_set, List.length_replicate]; omega) | (intro h; simp [h]; done))
       refine fin_then ?_
       refine tri_ret ?_
       exact fin_ret [] rfl rfl trivial hcx (avs := [.bool ((((decide (((Cn.elX N L fz g).length : Int) ≤ ((L.length : Int) + (g * ((Cn.elU N L fz g).length : Int))))) && ((Cn.elN N L fz g) == N)) && ((Cn.chkV (Cn.elN N L fz g) (Cn.elX N L fz g)) == 0)) && ((decide (((Cn.elU N L fz g).length : Int) > 0)) || (((Cn.elN N L fz g) == N) && decide ((Cn.elX N L fz g) = L))))]) (by kernel_rfl) (congrArg AV.bool (show ((((decide (((Cn.elX N L fz g).length : Int) ≤ ((L.length : Int) + (g * ((Cn.elU N L fz g).length : Int))))) && ((Cn.elN N L fz g) == N)) && ((Cn.chkV (Cn.elN N L fz g) (Cn.elX N L fz g)) == 0)) && ((decide (((Cn.elU N L fz g).length : Int) > 0)) || (((Cn.elN N L fz g) == N) && decide ((Cn.elX N L fz g) = L)))) = true from (by exact Cn.gone_fin hG hN9))) [] rfl
 ·
  cases hσ
end Go.Proofs.Ythhfdjcaafckbaa.En
