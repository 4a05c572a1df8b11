/- The laws ElimAll, ElimGone, ElimSteps and ElimModels of layer 23, in the reader's words. -/
import Derived.Test.YthhfdjcaafckbaaLaw23S
import Derived.Test.YthhfdjcaafckbaaLaw23V
import Derived.Test.YthhfdjcaafckbaaElimT
import Derived.Test.YthhfdjcaafckbaaAllX
import Derived.Test.YthhfdjcaafckbaaEngFrz
namespace Go.Proofs.Ythhfdjcaafckbaa.En
open Go Go.RowKit
set_option linter.unusedVariables false
set_option linter.unusedSimpArgs false
set_option linter.unnecessarySimpa false
def tyL23U1 : List (Nat × TD) := [(3, ⟨1, false, [.int .i64 0], [], none, 8, false, 1, 1⟩),
  (4, ⟨1, false, [.bool false], [], none, 1, true, 0, 2⟩),
  (22, ⟨1, false, [.slice none 0 0], [], some 43, 24, false, 0, 0⟩),
  (24, ⟨2, true, [.int .i64 0, .slice none 0 0], [(0, 3), (1, 22)], none, 32, false, 0, 6⟩),
  (28, ⟨2, true, [.int .i64 0, .slice none 0 0], [(0, 3), (1, 22)], none, 32, false, 0, 6⟩),
  (29, ⟨1, false, [.int .i64 0], [], none, 8, false, 1, 1⟩),
  (34, ⟨1, false, [.slice none 0 0], [], some 28, 24, false, 0, 0⟩),
  (36, ⟨1, false, [.slice none 0 0], [], some 4, 24, false, 0, 0⟩),
  (43, ⟨1, false, [.slice none 0 0], [], some 3, 24, false, 0, 3⟩)]
theorem tyL23U1_ok : AllTy Try.prog tyL23U1 := ⟨⟨by kernel_rfl, by kernel_rfl⟩, ⟨by kernel_rfl, by kernel_rfl⟩, ⟨by kernel_rfl, by kernel_rfl⟩, ⟨by kernel_rfl, by kernel_rfl⟩, ⟨by kernel_rfl, by kernel_rfl⟩, ⟨by kernel_rfl, by kernel_rfl⟩, ⟨by kernel_rfl, by kernel_rfl⟩, ⟨by kernel_rfl, by kernel_rfl⟩, ⟨by kernel_rfl, by kernel_rfl⟩, trivial⟩
def cx_elimAll : Cx := ⟨tyL23U1, [(12, (frzF (coeF [.agg [.id, .ld (.intss [])], .id] eOutF_σ))), (18, (frzF (coeF [.ld (.undos []), .ld (.bools [])] eBack_σ))), (22, (coeF [.agg [.id, .ld (.intss [])], .ld (.ints []), .id] eElim_σ)), (23, (coeF [.agg [.id, .ld (.intss [])], .ld (.ints []), .id] qElim_σ)), (11, (coeF [.agg [.id, .ld (.intss [])], .id, .id] qFew_σ)), (24, (coeF [.ld (.ints []), .id] qHas_σ)), (15, (coeF [.ld (.undos []), .ld (.undos [])] qUndos_σ)), (14, (coeF [.agg [.id, .ld (.intss [])], .agg [.id, .ld (.intss [])]] rSame_σ)), (21, (coeF [.agg [.id, .ld (.intss [])], .ld (.bools [])] cValue_σ)), (25, (coeF [.agg [.id, .ld (.intss [])]] cCheck_σ)), (20, sAll), (10, live23_σ)]⟩
theorem cx_elimAll_ok : CxOk Try.prog cx_elimAll := cx_ok tyL23U1_ok ⟨((eOutF_sound.coe [.agg [.id, .ld (.intss [])], .id] rfl)).frz, ((eBack_sound.coe [.ld (.undos []), .ld (.bools [])] rfl)).frz, (eElim_sound.coe [.agg [.id, .ld (.intss [])], .ld (.ints []), .id] rfl), (qElim_sound.coe [.agg [.id, .ld (.intss [])], .ld (.ints []), .id] rfl), (qFew_sound.coe [.agg [.id, .ld (.intss [])], .id, .id] rfl), (qHas_sound.coe [.ld (.ints []), .id] rfl), (qUndos_sound.coe [.ld (.undos []), .ld (.undos [])] rfl), (rSame_sound.coe [.agg [.id, .ld (.intss [])], .agg [.id, .ld (.intss [])]] rfl), (cValue_sound.coe [.agg [.id, .ld (.intss [])], .ld (.bools [])] rfl), (cCheck_sound.coe [.agg [.id, .ld (.intss [])]] rfl), sAll_sound, live23_sound, trivial⟩
def elimAll_σ : CtF
  | [.agg [.im (.val (.int .i64 N)), .im (.ls (.intss L))], .im (.ls (.ints fz)), .im (.val (.int .i64 g))], [] => some (L.length ≤ maxLen ∧ fz.length ≤ maxLen, .bool true, [])
  | _, _ => none
theorem elimAll_sound : Sound Try.prog 6 elimAll_σ := by
 refine sound_mk (cx := cx_elimAll) (fn := Try.f6) Try.func6 (by kernel_rfl) rfl ?_
 intro w0 G0 args os p r outs hσ hp hm0 hd0
 have hcx : CxOk Try.prog cx_elimAll := cx_elimAll_ok
 unfold elimAll_σ at hσ
 split at hσ
 ·
  rename_i N L fz g
  simp only [Option.some.injEq, Prod.mk.injEq] at hσ
  obtain ⟨rfl, rfl, rfl⟩ := hσ
  obtain ⟨wW, wO, wm, wβ, wd⟩ := w0
  replace hm0 : wm = 0 := hm0
  subst hm0
  replace hd0 : wd = [] := hd0
  subst hd0
  refine ⟨by kernel_rfl, ?_⟩
  change Tri ⟨_, _, _, _, _, _⟩ [(0, .agg [.int N, .intss L]), (1, .ints fz), (2, .int g)] [] _ _
  refine tri_seq ?_
  refine tri_regD hcx [(1000, .frz)] [3] [1, 2] [] [] [(3, .pto [.int N, .ls (.intss L)])] [] (by kernel_rfl) ?_ ?_
  ·
   exact az
  refine fin_then ?_
  refine tri_seq ?_
  refine tri_seq ?_
  refine tri_regD hcx [] [14] [3, 1, 2] [] [(True)] [(14, .bool (!true))] [] (by kernel_rfl) ?_ ?_
  ·
   refine (ap ?_ az)
   first | omega | exact True.intro | exact id | exact hp.1 | exact hpe | exact (fun _ h => h) | exact ⟨hp.1, by decide, by decide⟩ | exact ⟨hx1, hx2⟩ | exact (fun _ => ⟨hx1, hx2⟩) | exact (fun _ => ⟨hu1, hu2⟩) | (constructor <;> omega) | (first | omega | exact id | exact vcNot | exact vcG | exact vcH | (intro _; omega) | exact (fun _ h => h) | (intro h; simp at h; omega) | (simp only [List.length_cons, List.length_nil, List.length_append, List.length_map, List.length_set, List.length_replicate]; omega) | (intro h; simp [h]; done))
  refine fin_then ?_
  refine tri_cond (b := (!true)) (by kernel_rfl) (fun hb0 => ?_) (fun hb0 => ?_)
  ·
   skip
   have h0 := hb0
   cases h0
  ·
   skip
   have h0 := (notB_f hb0)
   refine tri_skip ?_
   refine fin_then ?_
   refine tri_seq ?_
   refine tri_seq ?_
   refine tri_regD hcx [] [30] [3, 1, 2] [] [(L.length ≤ maxLen ∧ 0 ≤ (40 : Int) ∧ (40 : Int) ≤ 1000000), ((!(!(Cn.fewB N L (30 : Int) (40 : Int)))) = true → ((!(!(Cn.fewB N L (30 : Int) (40 : Int)))) = true)), ((!(!(Cn.fewB N L (30 : Int) (40 : Int)))) = true → ((!(!(Cn.fewB N L (30 : Int) (40 : Int)))) = true)), ((!(Cn.fewB N L (30 : Int) (40 : Int))) = false → (!(!(Cn.fewB N L (30 : Int) (40 : Int)))) = true), ((!((!(Cn.fewB N L (30 : Int) (40 : Int))) || (decide ((fz.length : Int) > 40)))) = true → ((!((!(Cn.fewB N L (30 : Int) (40 : Int))) || (decide ((fz.length : Int) > 40)))) = true)), ((!((!(Cn.fewB N L (30 : Int) (40 : Int))) || (decide ((fz.length : Int) > 40)))) = true → ((!((!(Cn.fewB N L (30 : Int) (40 : Int))) || (decide ((fz.length : Int) > 40)))) = true)), (((!((!(Cn.fewB N L (30 : Int) (40 : Int))) || (decide ((fz.length : Int) > 40)))) && (decide (g > 40))) = true → (((!((!(Cn.fewB N L (30 : Int) (40 : Int))) || (decide ((fz.length : Int) > 40)))) && (decide (g > 40))) = true)), ((!((!(Cn.fewB N L (30 : Int) (40 : Int))) || (decide ((fz.length : Int) > 40)))) = true → ((!((!(Cn.fewB N L (30 : Int) (40 : Int))) || (decide ((fz.length : Int) > 40)))) = true)), ((!((!(Cn.fewB N L (30 : Int) (40 : Int))) || (decide ((fz.length : Int) > 40)))) = true → ((decide (g > 40)) = true → ((!((!(Cn.fewB N L (30 : Int) (40 : Int))) || (decide ((fz.length : Int) > 40)))) && (decide (g > 40))) = true)), (((!(Cn.fewB N L (30 : Int) (40 : Int))) || (decide ((fz.length : Int) > 40))) = false → (!((!(Cn.fewB N L (30 : Int) (40 : Int))) || (decide ((fz.length : Int) > 40)))) = true)] [(30, .bool (((!(Cn.fewB N L (30 : Int) (40 : Int))) || (decide ((fz.length : Int) > 40))) || ((decide (g > 40)) && (decide (g ≤ 1099511627776)))))] [] (by kernel_rfl) ?_ ?_
   ·
    refine (ap ?_ (ap ?_ (ap ?_ (ap (by exact vcNot) (ap ?_ (ap ?_ (ap ?_ (ap ?_ (ap ?_ (ap (by exact vcNot) az))))))))))
    all_goals
     first | omega | exact True.intro | exact id | exact hp.1 | exact hpe | exact (fun _ h => h) | exact ⟨hp.1, by decide, by decide⟩ | exact ⟨hx1, hx2⟩ | exact (fun _ => ⟨hx1, hx2⟩) | exact (fun _ => ⟨hu1, hu2⟩) | (constructor <;> omega) | (first | omega | exact id | exact vcNot | exact vcG | exact vcH | (intro _; omega) | exact (fun _ h => h) | (intro h; simp at h; omega) | (simp only [List.length_cons, List.length_nil, List.length_append, List.length_map, List.length_set, List.length_replicate]; omega) | (intro h; simp [h]; done))
   refine fin_then ?_
   refine tri_cond (b := (((!(Cn.fewB N L (30 : Int) (40 : Int))) || (decide ((fz.length : Int) > 40))) || ((decide (g > 40)) && (decide (g ≤ 1099511627776))))) (by kernel_rfl) (fun hb1 => ?_) (fun hb1 => ?_)
   ·
    skip
    have h1 := hb1
    try simp only [Bool.or_eq_true, Bool.or_eq_false_iff, Bool.and_eq_true, Bool.and_eq_false_iff, Bool.not_eq_true', Bool.not_eq_false', decide_eq_true_eq, decide_eq_false_iff_not, bne_iff_ne, bne_eq_false_iff_eq, beq_iff_eq, beq_eq_false_iff_ne] at h1
    refine tri_seq ?_
    refine tri_regD hcx [] [6] [] [] [] [(6, .bool true)] [] (by kernel_rfl) ?_ ?_
    ·
     exact az
    refine fin_then ?_
    refine tri_ret ?_
    refine fin_then_ret ?_
    exact fin_ret [] rfl rfl trivial hcx (avs := [.bool true]) (by kernel_rfl) rfl [] rfl
   ·
    skip
    have h1 := hb1
    obtain ⟨⟨hf1, hf2, hs20⟩, hf4, hf5⟩ := Cn.few4 h1
    obtain ⟨⟨hx1, hx2⟩, hu1, hu2⟩ := Cn.el_bd (fz := fz) (g := g) (N := N) (L := L) (by omega) (by omega) hs20 (by omega)
    have hpe : L.length ≤ 40 ∧ (∀ l ∈ L, l.length ≤ 20) ∧ N ≤ 30 ∧ fz.length ≤ maxLen ∧ (g ≤ 40 ∨ 1099511627776 < g) := ⟨by omega, hs20, by omega, hp.2, by omega⟩
    have hlm : ∀ l ∈ L, l.length ≤ maxLen := fun l hl => by have := hs20 l hl; unfold maxLen; omega
    refine tri_skip ?_
    refine fin_then ?_
    refine tri_seq ?_
    refine tri_regD hcx [(1008, .to 607)] [7, 8, 9] [3, 1, 2] [] [(L.length ≤ 40 ∧ (∀ l ∈ L, l.length ≤ 20) ∧ N ≤ 30 ∧ fz.length ≤ maxLen ∧ (g ≤ 40 ∨ 1099511627776 < g))] [(7, .loc 607 0), (8, .undos (Cn.elU N L fz g)), (9, .int (Cn.elE N L fz g))] [(607, .box [.int (Cn.elN N L fz g), .intss (Cn.elX N L fz g)])] (by kernel_rfl) ?_ ?_
    ·
     refine (ap ?_ az)
     first | omega | exact True.intro | exact id | exact hp.1 | exact hpe | exact (fun _ h => h) | exact ⟨hp.1, by decide, by decide⟩ | exact ⟨hx1, hx2⟩ | exact (fun _ => ⟨hx1, hx2⟩) | exact (fun _ => ⟨hu1, hu2⟩) | (constructor <;> omega) | (first | omega | exact id | exact vcNot | exact vcG | exact vcH | (intro _; omega) | exact (fun _ h => h) | (intro h; simp at h; omega) | (simp only [List.length_cons, List.length_nil, List.length_append, List.length_map, List.length_set, List.length_replicate]; omega) | (intro h; simp [h]; done))
    refine fin_then ?_
    refine tri_seq ?_
    refine tri_regD hcx [(1008, .to 610)] [10, 11, 12] [7, 8, 9] [607] [(L.length ≤ 40 ∧ (∀ l ∈ L, l.length ≤ 20) ∧ N ≤ 30 ∧ fz.length ≤ maxLen ∧ (g ≤ 40 ∨ 1099511627776 < g))] [(10, .loc 610 0), (11, .undos (Cn.elU N L fz g)), (12, .int (Cn.elE N L fz g))] [(610, .box [.int (Cn.elN N L fz g), .intss (Cn.elX N L fz g)])] (by kernel_rfl) ?_ ?_
    ·
     refine (ap ?_ az)
     first | omega | exact True.intro | exact id | exact hp.1 | exact hpe | exact (fun _ h => h) | exact ⟨hp.1, by decide, by decide⟩ | exact ⟨hx1, hx2⟩ | exact (fun _ => ⟨hx1, hx2⟩) | exact (fun _ => ⟨hu1, hu2⟩) | (constructor <;> omega) | (first | omega | exact id | exact vcNot | exact vcG | exact vcH | (intro _; omega) | exact (fun _ h => h) | (intro h; simp at h; omega) | (simp only [List.length_cons, List.length_nil, List.length_append, List.length_map, List.length_set, List.length_replicate]; omega) | (intro h; simp [h]; done))
    refine fin_then ?_
    refine tri_seq ?_
    refine tri_regD hcx [] [6] [] [] [((Cn.elX N L fz g).length ≤ maxLen ∧ ∀ l ∈ (Cn.elX N L fz g), l.length ≤ maxLen), ((((Cn.elN N L fz g) == (Cn.elN N L fz g)) && decide ((Cn.elX N L fz g) = (Cn.elX N L fz g))) = true → ((((Cn.elN N L fz g) == (Cn.elN N L fz g)) && decide ((Cn.elX N L fz g) = (Cn.elX N L fz g))) = true)), ((((Cn.elN N L fz g) == (Cn.elN N L fz g)) && decide ((Cn.elX N L fz g) = (Cn.elX N L fz g))) = true → ((((Cn.elN N L fz g) == (Cn.elN N L fz g)) && decide ((Cn.elX N L fz g) = (Cn.elX N L fz g))) = true)), ((((Cn.elN N L fz g) == (Cn.elN N L fz g)) && decide ((Cn.elX N L fz g) = (Cn.elX N L fz g))) = true → ((Cn.elU N L fz g).length ≤ maxLen ∧ ∀ w ∈ (Cn.elU N L fz g), w.2.length ≤ maxLen ∧ ∀ l ∈ w.2, l.length ≤ maxLen)), ((((Cn.elN N L fz g) == (Cn.elN N L fz g)) && decide ((Cn.elX N L fz g) = (Cn.elX N L fz g))) = true → (((Cn.elN N L fz g) == (Cn.elN N L fz g)) && decide ((Cn.elX N L fz g) = (Cn.elX N L fz g))) = true), (((((Cn.elN N L fz g) == (Cn.elN N L fz g)) && decide ((Cn.elX N L fz g) = (Cn.elX N L fz g))) && (decide ((Cn.elU N L fz g) = (Cn.elU N L fz g)))) = true → (((((Cn.elN N L fz g) == (Cn.elN N L fz g)) && decide ((Cn.elX N L fz g) = (Cn.elX N L fz g))) && (decide ((Cn.elU N L fz g) = (Cn.elU N L fz g)))) = true)), (((((Cn.elN N L fz g) == (Cn.elN N L fz g)) && decide ((Cn.elX N L fz g) = (Cn.elX N L fz g))) && (decide ((Cn.elU N L fz g) = (Cn.elU N L fz g)))) = true → (((((Cn.elN N L fz g) == (Cn.elN N L fz g)) && decide ((Cn.elX N L fz g) = (Cn.elX N L fz g))) && (decide ((Cn.elU N L fz g) = (Cn.elU N L fz g)))) = true)), (((((Cn.elN N L fz g) == (Cn.elN N L fz g)) && decide ((Cn.elX N L fz g) = (Cn.elX N L fz g))) && (decide ((Cn.elU N L fz g) = (Cn.elU N L fz g)))) = true → ((((Cn.elN N L fz g) == (Cn.elN N L fz g)) && decide ((Cn.elX N L fz g) = (Cn.elX N L fz g))) && (decide ((Cn.elU N L fz g) = (Cn.elU N L fz g)))) = true)] [(6, .bool (((((Cn.elN N L fz g) == (Cn.elN N L fz g)) && decide ((Cn.elX N L fz g) = (Cn.elX N L fz g))) && (decide ((Cn.elU N L fz g) = (Cn.elU N L fz g)))) && ((Cn.elE N L fz g) == (Cn.elE N L fz g))))] [] (by kernel_rfl) ?_ ?_
    ·
     refine (ap ?_ (ap ?_ (ap ?_ (ap ?_ (ap (by exact id) (ap ?_ (ap ?_ (ap (by exact id) az))))))))
     all_goals
      first | omega | exact True.intro | exact id | exact hp.1 | exact hpe | exact (fun _ h => h) | exact ⟨hp.1, by decide, by decide⟩ | exact ⟨hx1, hx2⟩ | exact (fun _ => ⟨hx1, hx2⟩) | exact (fun _ => ⟨hu1, hu2⟩) | (constructor <;> omega) | (first | omega | exact id | exact vcNot | exact vcG | exact vcH | (intro _; omega) | exact (fun _ h => h) | (intro h; simp at h; omega) | (simp only [List.length_cons, List.length_nil, List.length_append, List.length_map, List.length_set, List.length_replicate]; omega) | (intro h; simp [h]; done))
    refine fin_then ?_
    refine tri_ret ?_
    exact fin_ret [] rfl rfl trivial hcx (avs := [.bool (((((Cn.elN N L fz g) == (Cn.elN N L fz g)) && decide ((Cn.elX N L fz g) = (Cn.elX N L fz g))) && (decide ((Cn.elU N L fz g) = (Cn.elU N L fz g)))) && ((Cn.elE N L fz g) == (Cn.elE N L fz g)))]) (by kernel_rfl) (congrArg AV.bool (show (((((Cn.elN N L fz g) == (Cn.elN N L fz g)) && decide ((Cn.elX N L fz g) = (Cn.elX N L fz g))) && (decide ((Cn.elU N L fz g) = (Cn.elU N L fz g)))) && ((Cn.elE N L fz g) == (Cn.elE N L fz g))) = true from (by first | rfl | simp))) [] rfl
 ·
  cases hσ
end Go.Proofs.Ythhfdjcaafckbaa.En
