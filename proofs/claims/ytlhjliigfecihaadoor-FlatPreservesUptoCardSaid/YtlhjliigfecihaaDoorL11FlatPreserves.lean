/- The law FlatPreserves of layer 11: it returns true. Conditions: lists within memory. -/
import Derived.Test.YtlhjliigfecihaaDoorLive11S
import Derived.Test.YtlhjliigfecihaaDoorLaw11P
namespace Go.Proofs.YtlhjliigfecihaaDoor.En
open Go Go.RowKit
set_option linter.unusedVariables false
set_option linter.unusedSimpArgs false
set_option linter.unnecessarySimpa false
def tyLFlatPreserves : List (Nat × TD) := [(3, ⟨1, false, [.int .i64 0], [], none, 8, false, 1, 1⟩),
  (4, ⟨1, false, [.bool false], [], none, 1, true, 0, 2⟩),
  (22, ⟨1, false, [.slice none 0 0], [], some 24, 24, false, 0, 0⟩),
  (24, ⟨4, true, [.int .i64 0, .int .i64 0, .int .i64 0, .slice none 0 0], [(0, 3), (1, 3), (2, 3), (3, 22)], none, 48, false, 0, 4⟩),
  (25, ⟨1, false, [.slice none 0 0], [], some 4, 24, false, 0, 0⟩),
  (31, ⟨1, false, [.int .i64 0], [], none, 8, false, 1, 1⟩)]
theorem tyLFlatPreserves_ok : AllTy Tryd.prog tyLFlatPreserves := ⟨⟨by kernel_rfl, by kernel_rfl⟩, ⟨by kernel_rfl, by kernel_rfl⟩, ⟨by kernel_rfl, by kernel_rfl⟩, ⟨by kernel_rfl, by kernel_rfl⟩, ⟨by kernel_rfl, by kernel_rfl⟩, ⟨by kernel_rfl, by kernel_rfl⟩, trivial⟩
def cx_lFlatPreserves : Cx := ⟨tyLFlatPreserves, [(25, lV_σ), (26, lConst_σ), (21, (coeF [.id, .id, .ld (.trees [])] lOf_σ)), (20, (coeF [.agg [.id, .id, .id, .ld (.trees [])]] lNot_σ)), (15, (coeF [.agg [.id, .id, .id, .ld (.trees [])]] fSimple_σ)), (27, (coeF [.agg [.id, .id, .id, .ld (.trees [])], .agg [.id, .id, .id, .ld (.trees [])]] fSame_τ)), (12, (coeF [.agg [.id, .id, .id, .ld (.trees [])], .ld (.bools [])] fVal_τ)), (24, (coeF [.agg [.id, .id, .id, .ld (.trees [])]] fSize_σ)), (17, (coeF [.agg [.id, .id, .id, .ld (.trees [])], .id] fChk_σ)), (23, (coeF [.agg [.id, .id, .id, .ld (.trees [])]] fVars_σ)), (36, (coeF [.agg [.id, .id, .id, .ld (.trees [])], .id] rWeigh)), (10, lLive_σ), (11, (coeF [.agg [.id, .id, .id, .ld (.trees [])], .ld (.bools [])] lFew_σ)), (19, (coeF [.agg [.id, .id, .id, .ld (.trees [])]] rFew_σ))]⟩
theorem cx_lFlatPreserves_ok : CxOk Tryd.prog cx_lFlatPreserves := cx_ok tyLFlatPreserves_ok ⟨lV_sound, lConst_sound, (lOf_sound.coe [.id, .id, .ld (.trees [])] rfl), (lNot_sound.coe [.agg [.id, .id, .id, .ld (.trees [])]] rfl), (fSimple_sound.coe [.agg [.id, .id, .id, .ld (.trees [])]] rfl), (fSame_sound.coe [.agg [.id, .id, .id, .ld (.trees [])], .agg [.id, .id, .id, .ld (.trees [])]] rfl), (fVal_sound.coe [.agg [.id, .id, .id, .ld (.trees [])], .ld (.bools [])] rfl), (fSize_sound.coe [.agg [.id, .id, .id, .ld (.trees [])]] rfl), (fChk_sound.coe [.agg [.id, .id, .id, .ld (.trees [])], .id] rfl), (fVars_sound.coe [.agg [.id, .id, .id, .ld (.trees [])]] rfl), (rWeigh_sound.coe [.agg [.id, .id, .id, .ld (.trees [])], .id] rfl), lLive_sound, (lFew_sound.coe [.agg [.id, .id, .id, .ld (.trees [])], .ld (.bools [])] rfl), (rFew_sound.coe [.agg [.id, .id, .id, .ld (.trees [])]] rfl), trivial⟩
def lFlatPreserves_σ : CtF
  | [.agg [.im (.val (.int .i64 q)), .im (.val (.int .i64 v)), .im (.val (.int .i64 k)), .im (.ls (.trees l))], .im (.ls (.bools a))], [] => some (l.length ≤ 2932031007317 ∧ Fl.lensL l ∧ Fl.sizeL l ≤ 1000000 ∧ a.length ≤ maxLen, .bool true, [])
  | _, _ => none
theorem lFlatPreserves_sound : Sound Tryd.prog 5 lFlatPreserves_σ := by
 refine sound_mk (cx := cx_lFlatPreserves) (fn := Tryd.f5) Tryd.func5 (by kernel_rfl) rfl ?_
 intro w0 G0 args os p r outs hσ hp hm0 hd0
 have hcx : CxOk Tryd.prog cx_lFlatPreserves := cx_lFlatPreserves_ok
 have hmx : Tryd.prog.follows .mixedOrders = true := by kernel_rfl
 unfold lFlatPreserves_σ at hσ
 split at hσ
 ·
  rename_i q v k l a
  simp only [Option.some.injEq, Prod.mk.injEq] at hσ
  obtain ⟨rfl, rfl, rfl⟩ := hσ
  obtain ⟨wW, wO, wm, wβ, wd⟩ := w0
  replace hm0 : wm = 0 := hm0
  subst hm0
  replace hd0 : wd = [] := hd0
  subst hd0
  refine ⟨by kernel_rfl, ?_⟩
  change Tri ⟨_, _, _, _, _, _⟩ [(0, .agg [.int q, .int v, .int k, .trees l]), (1, .bools a)] [] _ _
  obtain ⟨hm1, hm2, hsz, hm3⟩ := hp
  have hst := Fl.size_node q v k l
  have hxs := Fl.simN_size (q := q) (v := v) (k := k) (l := l)
  have hxl := Fl.simN_lens (q := q) (v := v) (k := k) hsz
  have hxt : Fl.sizeT (.node (Fl.simN q v k l).kind (Fl.simN q v k l).v (Fl.simN q v k l).k (Fl.simN q v k l).l) ≤ 1000001 := by rw [Fl.node_eta]; omega
  refine tri_seq ?_
  refine tri_regD hcx [(1000, .frz)] [2] [1] [] [] [(2, .pto [.int q, .int v, .int k, .ls (.trees l)])] [] (by kernel_rfl) ?_ ?_
  ·
   exact az
  refine fin_then ?_
  refine tri_seq ?_
  refine tri_seq ?_
  refine tri_regD hcx [] [7] [2, 1] [] [(True)] [(7, .bool (!true))] [] (by kernel_rfl) ?_ ?_
  ·
   refine (ap ?_ az)
   first | omega | exact id | exact vcNot | exact vcG | exact vcH | (intro _; omega) | exact (fun _ h => h) | (intro h; simp at h; omega) | (simp only [List.length_cons, List.length_nil, List.length_append, List.length_map, List.length_set, List.length_replicate]; omega) | (intro h; simp [h]; done) | exact True.intro | exact (fun _ => True.intro) | exact ⟨hm1, hm2, hsz⟩ | exact Fl.simN_lens hsz | (intro _; omega) | exact hm3 | exact (fun _ => ⟨hxl.1, hxl.2, hm3⟩) | exact (fun _ => ⟨hm1, hm2, hm3⟩) | done
  refine fin_then ?_
  refine tri_cond (b := (!true)) (by kernel_rfl) (fun hb0 => ?_) (fun hb0 => ?_)
  ·
   skip
   have h0 := (notB_t hb0)
   exact absurd h0 (by decide)
  ·
   skip
   have h0 := (notB_f hb0)
   refine tri_skip ?_
   refine fin_then ?_
   refine tri_seq ?_
   refine tri_seq ?_
   refine tri_regD hcx [] [16] [2, 1] [] [(a.length ≤ maxLen), ((!(!(Fl.fewT l && decide ((a.length : Int) ≤ 1000)))) = true → ((!(!(Fl.fewT l && decide ((a.length : Int) ≤ 1000)))) = true)), ((!(!(Fl.fewT l && decide ((a.length : Int) ≤ 1000)))) = true → (Fl.sizeT (.node q v k l) ≤ 1000000000000000)), ((!(!(Fl.fewT l && decide ((a.length : Int) ≤ 1000)))) = true → ((!(!(Fl.fewT l && decide ((a.length : Int) ≤ 1000)))) = true)), ((!(Fl.fewT l && decide ((a.length : Int) ≤ 1000))) = false → (!(!(Fl.fewT l && decide ((a.length : Int) ≤ 1000)))) = true)] [(16, .bool ((!(Fl.fewT l && decide ((a.length : Int) ≤ 1000))) || ((Fl.chkN (65536 : Int) q v k l) != 0)))] [] (by kernel_rfl) ?_ ?_
   ·
    refine (ap ?_ (ap ?_ (ap ?_ (ap ?_ (ap (by exact vcNot) az)))))
    all_goals
     first | omega | exact id | exact vcNot | exact vcG | exact vcH | (intro _; omega) | exact (fun _ h => h) | (intro h; simp at h; omega) | (simp only [List.length_cons, List.length_nil, List.length_append, List.length_map, List.length_set, List.length_replicate]; omega) | (intro h; simp [h]; done) | exact True.intro | exact (fun _ => True.intro) | exact ⟨hm1, hm2, hsz⟩ | exact Fl.simN_lens hsz | (intro _; omega) | exact hm3 | exact (fun _ => ⟨hxl.1, hxl.2, hm3⟩) | exact (fun _ => ⟨hm1, hm2, hm3⟩) | done
   refine fin_then ?_
   refine tri_cond (b := ((!(Fl.fewT l && decide ((a.length : Int) ≤ 1000))) || ((Fl.chkN (65536 : Int) q v k l) != 0))) (by kernel_rfl) (fun hb1 => ?_) (fun hb1 => ?_)
   ·
    skip
    have h1 := hb1
    skip
    refine tri_seq ?_
    refine tri_regD hcx [] [4] [] [] [] [(4, .bool true)] [] (by kernel_rfl) ?_ ?_
    ·
     exact az
    refine fin_then ?_
    refine tri_ret ?_
    refine fin_then_ret ?_
    exact fin_ret [] rfl rfl trivial hcx (avs := [.bool true]) (by kernel_rfl) rfl [] rfl
   ·
    skip
    have h1 := hb1
    have h0 : Fl.chkN 65536 q v k l = 0 := by simpa using (Bool.or_eq_false_iff.1 h1).2
    have h1 := Fl.pres_ok (a := a) h0
    refine tri_skip ?_
    refine fin_then ?_
    refine tri_seq ?_
    refine tri_regD hcx [(1002, .to 605)] [5] [2, 1] [] [(l.length ≤ 2932031007317 ∧ Fl.lensL l ∧ Fl.sizeL l ≤ 1000000)] [(5, .loc 605 0)] [(605, .box [.int ((Fl.simN q v k l).kind), .int ((Fl.simN q v k l).v), .int ((Fl.simN q v k l).k), .trees ((Fl.simN q v k l).l)])] (by kernel_rfl) ?_ ?_
    ·
     refine (ap ?_ az)
     first | omega | exact id | exact vcNot | exact vcG | exact vcH | (intro _; omega) | exact (fun _ h => h) | (intro h; simp at h; omega) | (simp only [List.length_cons, List.length_nil, List.length_append, List.length_map, List.length_set, List.length_replicate]; omega) | (intro h; simp [h]; done) | exact True.intro | exact (fun _ => True.intro) | exact ⟨hm1, hm2, hsz⟩ | exact Fl.simN_lens hsz | (intro _; omega) | exact hm3 | exact (fun _ => ⟨hxl.1, hxl.2, hm3⟩) | exact (fun _ => ⟨hm1, hm2, hm3⟩) | done
    refine fin_then ?_
    refine tri_seq ?_
    refine tri_drawD [0, 1, 3, 7, 15, 15, 63, 15, 15, 511, 1023, 2047, 4095] hcx hmx [] [4] [] [] [(Fl.sizeT (.node ((Fl.simN q v k l).kind) ((Fl.simN q v k l).v) ((Fl.simN q v k l).k) ((Fl.simN q v k l).l)) ≤ 1000000000000000), (((Fl.chkN (65536 : Int) ((Fl.simN q v k l).kind) ((Fl.simN q v k l).v) ((Fl.simN q v k l).k) ((Fl.simN q v k l).l)) == 0) = true → (((Fl.chkN (65536 : Int) ((Fl.simN q v k l).kind) ((Fl.simN q v k l).v) ((Fl.simN q v k l).k) ((Fl.simN q v k l).l)) == 0) = true)), (((Fl.chkN (65536 : Int) ((Fl.simN q v k l).kind) ((Fl.simN q v k l).v) ((Fl.simN q v k l).k) ((Fl.simN q v k l).l)) == 0) = true → (((Fl.chkN (65536 : Int) ((Fl.simN q v k l).kind) ((Fl.simN q v k l).v) ((Fl.simN q v k l).k) ((Fl.simN q v k l).l)) == 0) = true)), (((Fl.chkN (65536 : Int) ((Fl.simN q v k l).kind) ((Fl.simN q v k l).v) ((Fl.simN q v k l).k) ((Fl.simN q v k l).l)) == 0) = true → (((Fl.simN q v k l).l).length ≤ 2932031007317 ∧ Fl.lensL ((Fl.simN q v k l).l) ∧ a.length ≤ maxLen)), (((Fl.chkN (65536 : Int) ((Fl.simN q v k l).kind) ((Fl.simN q v k l).v) ((Fl.simN q v k l).k) ((Fl.simN q v k l).l)) == 0) = true → (((Fl.chkN (65536 : Int) ((Fl.simN q v k l).kind) ((Fl.simN q v k l).v) ((Fl.simN q v k l).k) ((Fl.simN q v k l).l)) == 0) = true)), (((Fl.chkN (65536 : Int) ((Fl.simN q v k l).kind) ((Fl.simN q v k l).v) ((Fl.simN q v k l).k) ((Fl.simN q v k l).l)) == 0) = true → (((Fl.chkN (65536 : Int) ((Fl.simN q v k l).kind) ((Fl.simN q v k l).v) ((Fl.simN q v k l).k) ((Fl.simN q v k l).l)) == 0) = true)), (((Fl.chkN (65536 : Int) ((Fl.simN q v k l).kind) ((Fl.simN q v k l).v) ((Fl.simN q v k l).k) ((Fl.simN q v k l).l)) == 0) = true → (l.length ≤ 2932031007317 ∧ Fl.lensL l ∧ a.length ≤ maxLen)), (((Fl.chkN (65536 : Int) ((Fl.simN q v k l).kind) ((Fl.simN q v k l).v) ((Fl.simN q v k l).k) ((Fl.simN q v k l).l)) == 0) = true → (((Fl.chkN (65536 : Int) ((Fl.simN q v k l).kind) ((Fl.simN q v k l).v) ((Fl.simN q v k l).k) ((Fl.simN q v k l).l)) == 0) = true)), (((Fl.chkN (65536 : Int) ((Fl.simN q v k l).kind) ((Fl.simN q v k l).v) ((Fl.simN q v k l).k) ((Fl.simN q v k l).l)) == 0) = true → (((Fl.chkN (65536 : Int) ((Fl.simN q v k l).kind) ((Fl.simN q v k l).v) ((Fl.simN q v k l).k) ((Fl.simN q v k l).l)) == 0) = true)), (((Fl.chkN (65536 : Int) ((Fl.simN q v k l).kind) ((Fl.simN q v k l).v) ((Fl.simN q v k l).k) ((Fl.simN q v k l).l)) == 0) = true → ((Fl.chkN (65536 : Int) ((Fl.simN q v k l).kind) ((Fl.simN q v k l).v) ((Fl.simN q v k l).k) ((Fl.simN q v k l).l)) == 0) = true)] [(4, .bool (((Fl.chkN (65536 : Int) ((Fl.simN q v k l).kind) ((Fl.simN q v k l).v) ((Fl.simN q v k l).k) ((Fl.simN q v k l).l)) == 0) && ((Fl.valN a ((Fl.simN q v k l).kind) ((Fl.simN q v k l).v) ((Fl.simN q v k l).k) ((Fl.simN q v k l).l)) == (Fl.valN a q v k l))))] [] (by kernel_rfl) ?_ ?_
    ·
     refine (ap ?_ (ap ?_ (ap ?_ (ap ?_ (ap ?_ (ap ?_ (ap ?_ (ap ?_ (ap ?_ (ap (by exact id) az))))))))))
     all_goals
      first | omega | exact id | exact vcNot | exact vcG | exact vcH | (intro _; omega) | exact (fun _ h => h) | (intro h; simp at h; omega) | (simp only [List.length_cons, List.length_nil, List.length_append, List.length_map, List.length_set, List.length_replicate]; omega) | (intro h; simp [h]; done) | exact True.intro | exact (fun _ => True.intro) | exact ⟨hm1, hm2, hsz⟩ | exact Fl.simN_lens hsz | (intro _; omega) | exact hm3 | exact (fun _ => ⟨hxl.1, hxl.2, hm3⟩) | exact (fun _ => ⟨hm1, hm2, hm3⟩) | done
    refine fin_then ?_
    refine tri_ret ?_
    exact fin_ret [] rfl rfl trivial hcx (avs := [.bool (((Fl.chkN (65536 : Int) ((Fl.simN q v k l).kind) ((Fl.simN q v k l).v) ((Fl.simN q v k l).k) ((Fl.simN q v k l).l)) == 0) && ((Fl.valN a ((Fl.simN q v k l).kind) ((Fl.simN q v k l).v) ((Fl.simN q v k l).k) ((Fl.simN q v k l).l)) == (Fl.valN a q v k l)))]) (by kernel_rfl) (congrArg AV.bool (show (((Fl.chkN (65536 : Int) ((Fl.simN q v k l).kind) ((Fl.simN q v k l).v) ((Fl.simN q v k l).k) ((Fl.simN q v k l).l)) == 0) && ((Fl.valN a ((Fl.simN q v k l).kind) ((Fl.simN q v k l).v) ((Fl.simN q v k l).k) ((Fl.simN q v k l).l)) == (Fl.valN a q v k l))) = true from (by (rw [h1.1, h1.2]; simp)))) [] rfl
 ·
  cases hσ
end Go.Proofs.YtlhjliigfecihaaDoor.En
