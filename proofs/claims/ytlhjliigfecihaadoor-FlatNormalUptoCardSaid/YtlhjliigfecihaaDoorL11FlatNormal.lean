/- The law FlatNormal of layer 11: it returns true. Conditions: lists within memory. -/
import Derived.Test.YtlhjliigfecihaaDoorLive11S
import Derived.Test.YtlhjliigfecihaaDoorLaw11P
namespace Go.Proofs.YtlhjliigfecihaaDoor.En
open Go Go.RowKit
set_option linter.unusedVariables false
set_option linter.unusedSimpArgs false
set_option linter.unnecessarySimpa false
def tyLFlatNormal : List (Nat × TD) := [(3, ⟨1, false, [.int .i64 0], [], none, 8, false, 1, 1⟩),
  (4, ⟨1, false, [.bool false], [], none, 1, true, 0, 2⟩),
  (22, ⟨1, false, [.slice none 0 0], [], some 24, 24, false, 0, 0⟩),
  (24, ⟨4, true, [.int .i64 0, .int .i64 0, .int .i64 0, .slice none 0 0], [(0, 3), (1, 3), (2, 3), (3, 22)], none, 48, false, 0, 4⟩),
  (25, ⟨1, false, [.slice none 0 0], [], some 4, 24, false, 0, 0⟩),
  (31, ⟨1, false, [.int .i64 0], [], none, 8, false, 1, 1⟩)]
theorem tyLFlatNormal_ok : AllTy Tryd.prog tyLFlatNormal := ⟨⟨by kernel_rfl, by kernel_rfl⟩, ⟨by kernel_rfl, by kernel_rfl⟩, ⟨by kernel_rfl, by kernel_rfl⟩, ⟨by kernel_rfl, by kernel_rfl⟩, ⟨by kernel_rfl, by kernel_rfl⟩, ⟨by kernel_rfl, by kernel_rfl⟩, trivial⟩
def lPlain_σ (nn : Nat) : CtF
  | [.agg [.im (.val (.int .i64 q)), .im (.val (.int .i64 v)), .im (.val (.int .i64 k)), .im (.ls (.trees l))]], [] => some (l.length ≤ 2932031007317 ∧ Fl.lensL l ∧ Fl.sizeL l < nn, .bool (Fl.nfN q k l), [])
  | _, _ => none
def cx_lPlain (nn : Nat) : Cx := ⟨tyLFlatNormal, [(25, lV_σ), (26, lConst_σ), (21, (coeF [.id, .id, .ld (.trees [])] lOf_σ)), (20, (coeF [.agg [.id, .id, .id, .ld (.trees [])]] lNot_σ)), (15, (coeF [.agg [.id, .id, .id, .ld (.trees [])]] fSimple_σ)), (27, (coeF [.agg [.id, .id, .id, .ld (.trees [])], .agg [.id, .id, .id, .ld (.trees [])]] fSame_τ)), (12, (coeF [.agg [.id, .id, .id, .ld (.trees [])], .ld (.bools [])] fVal_τ)), (24, (coeF [.agg [.id, .id, .id, .ld (.trees [])]] fSize_σ)), (17, (coeF [.agg [.id, .id, .id, .ld (.trees [])], .id] fChk_σ)), (23, (coeF [.agg [.id, .id, .id, .ld (.trees [])]] fVars_σ)), (36, (coeF [.agg [.id, .id, .id, .ld (.trees [])], .id] rWeigh)), (10, lLive_σ), (11, (coeF [.agg [.id, .id, .id, .ld (.trees [])], .ld (.bools [])] lFew_σ)), (19, (coeF [.agg [.id, .id, .id, .ld (.trees [])]] rFew_σ)), (18, (coeF [.agg [.id, .id, .id, .ld (.trees [])]] (lPlain_σ nn)))]⟩
theorem cx_lPlain_ok (nn : Nat) (hR : Sound Tryd.prog 18 (lPlain_σ nn)) : CxOk Tryd.prog (cx_lPlain nn) := cx_ok tyLFlatNormal_ok ⟨lV_sound, lConst_sound, (lOf_sound.coe [.id, .id, .ld (.trees [])] rfl), (lNot_sound.coe [.agg [.id, .id, .id, .ld (.trees [])]] rfl), (fSimple_sound.coe [.agg [.id, .id, .id, .ld (.trees [])]] rfl), (fSame_sound.coe [.agg [.id, .id, .id, .ld (.trees [])], .agg [.id, .id, .id, .ld (.trees [])]] rfl), (fVal_sound.coe [.agg [.id, .id, .id, .ld (.trees [])], .ld (.bools [])] rfl), (fSize_sound.coe [.agg [.id, .id, .id, .ld (.trees [])]] rfl), (fChk_sound.coe [.agg [.id, .id, .id, .ld (.trees [])], .id] rfl), (fVars_sound.coe [.agg [.id, .id, .id, .ld (.trees [])]] rfl), (rWeigh_sound.coe [.agg [.id, .id, .id, .ld (.trees [])], .id] rfl), lLive_sound, (lFew_sound.coe [.agg [.id, .id, .id, .ld (.trees [])], .ld (.bools [])] rfl), (rFew_sound.coe [.agg [.id, .id, .id, .ld (.trees [])]] rfl), (hR.coe [.agg [.id, .id, .id, .ld (.trees [])]] rfl), trivial⟩
theorem lPlain_step (nn : Nat) (hR : Sound Tryd.prog 18 (lPlain_σ nn)) : Sound Tryd.prog 18 (lPlain_σ (nn + 1)) := by
 refine sound_mk (cx := (cx_lPlain nn)) (fn := Tryd.f18) Tryd.func18 (by kernel_rfl) rfl ?_
 intro w0 G0 args os p r outs hσ hp hm0 hd0
 have hcx : CxOk Tryd.prog (cx_lPlain nn) := cx_lPlain_ok nn hR
 have hmx : Tryd.prog.follows .mixedOrders = true := by kernel_rfl
 unfold lPlain_σ at hσ
 split at hσ
 ·
  rename_i q v k l
  simp only [Option.some.injEq, Prod.mk.injEq] at hσ
  obtain ⟨rfl, rfl, rfl⟩ := hσ
  obtain ⟨wW, wO, wm, wβ, wd⟩ := w0
  replace hm0 : wm = 0 := hm0
  subst hm0
  replace hd0 : wd = [] := hd0
  subst hd0
  refine ⟨by kernel_rfl, ?_⟩
  change Tri ⟨_, _, _, _, _, _⟩ [(0, .agg [.int q, .int v, .int k, .trees l])] [] _ _
  obtain ⟨hm1, hm2, hsz⟩ := hp
  have hm9 := hm1
  have hsub : ∀ i, i < l.length → Fl.sizeL (l.getD i tree0).l < Fl.sizeL l := fun i h => Fl.size_sub h
  have hlen : ∀ i, i < l.length → _ := fun i h => Fl.lens_at hm2 h
  have h1g : ∀ b : Bool, ((((l.length : Int) == 1) && b) = true) → l.length = 1 := fun b h => by have := (Bool.and_eq_true_iff.1 h).1; have := eq_of_beq this; omega
  refine tri_seq ?_
  refine tri_regD hcx [(1000, .frz)] [1] [] [] [] [(1, .pto [.int q, .int v, .int k, .ls (.trees l)])] [] (by kernel_rfl) ?_ ?_
  ·
   exact az
  refine fin_then ?_
  refine tri_seq ?_
  refine tri_seq ?_
  refine tri_regD hcx [] [5] [1] [] [] [(5, .int q)] [] (by kernel_rfl) ?_ ?_
  ·
   exact az
  refine fin_then ?_
  refine tri_block ?_
  refine tri_seq ?_
  refine tri_regD hcx [] [6] [5, 1] [] [] [(6, .bool (q == 2))] [] (by kernel_rfl) ?_ ?_
  ·
   exact az
  refine fin_then ?_
  refine tri_cond (b := (q == 2)) (by kernel_rfl) (fun hb0 => ?_) (fun hb0 => ?_)
  ·
   skip
   have h0 := eq_of_beq hb0
   refine tri_seq ?_
   refine tri_regD hcx [] [2] [] [] [] [(2, .bool true)] [] (by kernel_rfl) ?_ ?_
   ·
    exact az
   refine fin_then ?_
   refine tri_ret ?_
   refine fin_block_ret ?_
   refine fin_then_ret ?_
   exact fin_ret [] rfl rfl trivial hcx (avs := [.bool true]) (by kernel_rfl) (congrArg AV.bool (show true = (Fl.nfN q k l) from (by first | exact Fl.nf_2 (by omega) | exact Fl.nf_3 (by omega) | exact Fl.nf_6no (by omega) hq6 | exact Fl.nf_45no (by omega) (by omega) | exact Fl.nf_def (by omega) (by omega) (by omega) (by omega) (by omega) | exact Fl.nf_bad (i := i) (by omega) hD hq | exact Fl.nf_ok (by omega) hD hok | done))) [] rfl
  ·
   skip
   have h0 := neB hb0
   refine tri_seq ?_
   refine tri_regD hcx [] [8] [5, 1] [] [] [(8, .bool (q == 3))] [] (by kernel_rfl) ?_ ?_
   ·
    exact az
   refine fin_then ?_
   refine tri_cond (b := (q == 3)) (by kernel_rfl) (fun hb1 => ?_) (fun hb1 => ?_)
   ·
    skip
    have h1 := eq_of_beq hb1
    refine tri_seq ?_
    refine tri_regD hcx [] [2] [] [] [(((l.length : Int) == 1) = true → (((l.length : Int) == 1) = true)), (((l.length : Int) == 1) = true → (((l.length : Int) == 1) = true)), (((l.length : Int) == 1) = true → ((0 : Int) ≤ 0 ∧ 0 < (l.length : Int))), (((l.length : Int) == 1) = true → (((l.length : Int) == 1) = true)), (((l.length : Int) == 1) = true → (((l.length : Int) == 1) = true)), (((l.length : Int) == 1) = true → (((l.length : Int) == 1) = true)), (((l.length : Int) == 1) = true → ((l.length : Int) == 1) = true), ((((l.length : Int) == 1) && (((l.getD 0 tree0).kind) != 3)) = true → ((((l.length : Int) == 1) && (((l.getD 0 tree0).kind) != 3)) = true)), ((((l.length : Int) == 1) && (((l.getD 0 tree0).kind) != 3)) = true → ((((l.length : Int) == 1) && (((l.getD 0 tree0).kind) != 3)) = true)), ((((l.length : Int) == 1) && (((l.getD 0 tree0).kind) != 3)) = true → ((0 : Int) ≤ 0 ∧ 0 < (l.length : Int))), ((((l.length : Int) == 1) && (((l.getD 0 tree0).kind) != 3)) = true → ((((l.length : Int) == 1) && (((l.getD 0 tree0).kind) != 3)) = true)), ((((l.length : Int) == 1) && (((l.getD 0 tree0).kind) != 3)) = true → ((((l.length : Int) == 1) && (((l.getD 0 tree0).kind) != 3)) = true)), ((((l.length : Int) == 1) && (((l.getD 0 tree0).kind) != 3)) = true → (((l.getD 0 tree0).l).length ≤ 2932031007317 ∧ Fl.lensL ((l.getD 0 tree0).l) ∧ Fl.sizeL ((l.getD 0 tree0).l) < nn)), ((((l.length : Int) == 1) && (((l.getD 0 tree0).kind) != 3)) = true → (((l.length : Int) == 1) && (((l.getD 0 tree0).kind) != 3)) = true)] [(2, .bool ((((l.length : Int) == 1) && (((l.getD 0 tree0).kind) != 3)) && (Fl.nfN ((l.getD 0 tree0).kind) ((l.getD 0 tree0).k) ((l.getD 0 tree0).l))))] [] (by kernel_rfl) ?_ ?_
    ·
     refine (ap ?_ (ap ?_ (ap ?_ (ap ?_ (ap ?_ (ap ?_ (ap (by exact id) (ap ?_ (ap ?_ (ap ?_ (ap ?_ (ap ?_ (ap ?_ (ap (by exact id) az))))))))))))))
     all_goals
      first | omega | exact id | exact vcNot | exact vcG | exact vcH | (intro _; omega) | exact (fun _ h => h) | (intro h; simp at h; omega) | (simp only [List.length_cons, List.length_nil, List.length_append, List.length_map, List.length_set, List.length_replicate]; omega) | (intro h; simp [h]; done) | exact ⟨(hlen i (by omega)).1, (hlen i (by omega)).2, by have := hsub i (by omega); omega⟩ | (intro h; have := h1g _ h; omega) | (intro h; have h9 := h1g _ h; exact ⟨(hlen 0 (by omega)).1, (hlen 0 (by omega)).2, by have := hsub 0 (by omega); omega⟩) | (intro h; have := eq_of_beq h; constructor <;> omega) | (intro h; have := eq_of_beq h; omega) | (constructor <;> omega) | (intro _; constructor <;> omega) | exact True.intro | done
    refine fin_then ?_
    refine tri_ret ?_
    refine fin_block_ret ?_
    refine fin_then_ret ?_
    exact fin_ret [] rfl rfl trivial hcx (avs := [.bool ((((l.length : Int) == 1) && (((l.getD 0 tree0).kind) != 3)) && (Fl.nfN ((l.getD 0 tree0).kind) ((l.getD 0 tree0).k) ((l.getD 0 tree0).l)))]) (by kernel_rfl) (congrArg AV.bool (show ((((l.length : Int) == 1) && (((l.getD 0 tree0).kind) != 3)) && (Fl.nfN ((l.getD 0 tree0).kind) ((l.getD 0 tree0).k) ((l.getD 0 tree0).l))) = (Fl.nfN q k l) from (by first | exact Fl.nf_2 (by omega) | exact Fl.nf_3 (by omega) | exact Fl.nf_6no (by omega) hq6 | exact Fl.nf_45no (by omega) (by omega) | exact Fl.nf_def (by omega) (by omega) (by omega) (by omega) (by omega) | exact Fl.nf_bad (i := i) (by omega) hD hq | exact Fl.nf_ok (by omega) hD hok | done))) [] rfl
   ·
    skip
    have h1 := neB hb1
    refine tri_seq ?_
    refine tri_regD hcx [] [29] [5, 1] [] [] [(29, .bool (q == 6))] [] (by kernel_rfl) ?_ ?_
    ·
     exact az
    refine fin_then ?_
    refine tri_cond (b := (q == 6)) (by kernel_rfl) (fun hb2 => ?_) (fun hb2 => ?_)
    ·
     skip
     have h2 := eq_of_beq hb2
     refine tri_seq ?_
     refine tri_regD hcx [] [41] [1] [] [((!(decide (k ≤ 1))) = true → ((!(decide (k ≤ 1))) = true)), ((!(decide (k ≤ 1))) = true → ((!(decide (k ≤ 1))) = true)), ((!(decide (k ≤ 1))) = true → ((!(decide (k ≤ 1))) = true)), ((!(decide (k ≤ 1))) = true → ((!(decide (k ≤ 1))) = true)), ((!(decide (k ≤ 1))) = true → ((!(decide (k ≤ 1))) = true)), ((decide (k ≤ 1)) = false → (!(decide (k ≤ 1))) = true)] [(41, .bool ((decide (k ≤ 1)) || (decide (k ≥ (l.length : Int)))))] [] (by kernel_rfl) ?_ ?_
     ·
      refine (ap ?_ (ap ?_ (ap ?_ (ap ?_ (ap ?_ (ap (by exact vcNot) az))))))
      all_goals
       first | omega | exact id | exact vcNot | exact vcG | exact vcH | (intro _; omega) | exact (fun _ h => h) | (intro h; simp at h; omega) | (simp only [List.length_cons, List.length_nil, List.length_append, List.length_map, List.length_set, List.length_replicate]; omega) | (intro h; simp [h]; done) | exact ⟨(hlen i (by omega)).1, (hlen i (by omega)).2, by have := hsub i (by omega); omega⟩ | (intro h; have := h1g _ h; omega) | (intro h; have h9 := h1g _ h; exact ⟨(hlen 0 (by omega)).1, (hlen 0 (by omega)).2, by have := hsub 0 (by omega); omega⟩) | (intro h; have := eq_of_beq h; constructor <;> omega) | (intro h; have := eq_of_beq h; omega) | (constructor <;> omega) | (intro _; constructor <;> omega) | exact True.intro | done
     refine fin_then ?_
     refine tri_cond (b := ((decide (k ≤ 1)) || (decide (k ≥ (l.length : Int))))) (by kernel_rfl) (fun hb3 => ?_) (fun hb3 => ?_)
     ·
      skip
      have h3 := hb3
      have hq6 := h3
      refine tri_seq ?_
      refine tri_regD hcx [] [2] [] [] [] [(2, .bool false)] [] (by kernel_rfl) ?_ ?_
      ·
       exact az
      refine fin_then ?_
      refine tri_ret ?_
      refine fin_block_ret ?_
      refine fin_then_ret ?_
      exact fin_ret [] rfl rfl trivial hcx (avs := [.bool false]) (by kernel_rfl) (congrArg AV.bool (show false = (Fl.nfN q k l) from (by first | exact Fl.nf_2 (by omega) | exact Fl.nf_3 (by omega) | exact Fl.nf_6no (by omega) hq6 | exact Fl.nf_45no (by omega) (by omega) | exact Fl.nf_def (by omega) (by omega) (by omega) (by omega) (by omega) | exact Fl.nf_bad (i := i) (by omega) hD hq | exact Fl.nf_ok (by omega) hD hok | done))) [] rfl
     ·
      skip
      have h3 := hb3
      try simp only [Bool.or_eq_true, Bool.or_eq_false_iff, Bool.and_eq_true, Bool.and_eq_false_iff, Bool.not_eq_true', Bool.not_eq_false', decide_eq_true_eq, decide_eq_false_iff_not, bne_iff_ne, bne_eq_false_iff_eq, beq_iff_eq, beq_eq_false_iff_ne] at h3
      refine tri_skip ?_
      refine fin_block ?_
      refine fin_then ?_
      refine tri_seq ?_
      refine tri_seq ?_
      refine tri_regD hcx [] [3] [1] [] [] [(3, .int 0)] [] (by kernel_rfl) ?_ ?_
      ·
       exact az
      refine fin_then ?_
      refine tri_block ?_
      refine tri_loop (X := Nat) (fun x0 => x0 ≤ l.length ∧ ((q = 6 ∧ 1 < k ∧ k < (l.length : Int)) ∨ ((q = 4 ∨ q = 5) ∧ 2 ≤ l.length)) ∧ ∀ j, j < x0 → Fl.nfT (l.getD j tree0) = true ∧ (q = 6 ∨ (l.getD j tree0).kind ≠ q)) (fun x0 => [(1, .pto [.int q, .int v, .int k, .ls (.trees l)]), (3, .int (x0 : Int))]) (fun x0 => []) (fun x0 => l.length - x0) (0) ?_ ?_ ?_ ?_
      ·
       show 0 ≤ l.length ∧ ((q = 6 ∧ 1 < k ∧ k < (l.length : Int)) ∨ ((q = 4 ∨ q = 5) ∧ 2 ≤ l.length)) ∧ ∀ j, j < 0 → Fl.nfT (l.getD j tree0) = true ∧ (q = 6 ∨ (l.getD j tree0).kind ≠ q)
       exact ⟨Nat.zero_le _, by omega, fun j hj => by omega⟩
      ·
       exact subE_mk (l := [.pto [.int q, .int v, .int k, .ls (.trees l)], .int 0]) (m := [.pto [.int q, .int v, .int k, .ls (.trees l)], .int (0 : Int)]) (by kernel_rfl) (by kernel_rfl) (consE rfl (consE (congrArg AV.int (show 0 = (0 : Int) from (by first | rfl | omega | (simp; done)))) rfl))
      ·
       kernel_rfl
      ·
       intro i hI
       replace hI : i ≤ l.length ∧ ((q = 6 ∧ 1 < k ∧ k < (l.length : Int)) ∨ ((q = 4 ∨ q = 5) ∧ 2 ≤ l.length)) ∧ ∀ j, j < i → Fl.nfT (l.getD j tree0) = true ∧ (q = 6 ∨ (l.getD j tree0).kind ≠ q) := hI
       change Tri _ [(1, .pto [.int q, .int v, .int k, .ls (.trees l)]), (3, .int (i : Int))] [] _ _
       obtain ⟨hk, hD, hok⟩ := hI
       refine tri_seq ?_
       refine tri_seq ?_
       refine tri_regD hcx [] [53] [1, 3] [] [] [(53, .bool (decide ((i : Int) < (l.length : Int))))] [] (by kernel_rfl) ?_ ?_
       ·
        exact az
       refine fin_then ?_
       refine tri_cond (b := (decide ((i : Int) < (l.length : Int)))) (by kernel_rfl) (fun hb4 => ?_) (fun hb4 => ?_)
       ·
        skip
        have h4 := of_decide_eq_true hb4
        refine tri_skip ?_
        refine fin_then ?_
        refine tri_seq ?_
        refine tri_block ?_
        refine tri_seq ?_
        refine tri_drawD [0, 1, 0, 7, 15, 31, 63, 127, 255, 511, 1023, 2047, 4095, 8191, 4095, 32767, 65535, 131071, 4095, 266239, 1048575, 2097151, 4194303] hcx hmx [] [78] [1, 3] [] [((0 : Int) ≤ (i : Int) ∧ (i : Int) < (l.length : Int)), (((l.getD i tree0).l).length ≤ 2932031007317 ∧ Fl.lensL ((l.getD i tree0).l) ∧ Fl.sizeL ((l.getD i tree0).l) < nn), ((!(!(Fl.nfN ((l.getD i tree0).kind) ((l.getD i tree0).k) ((l.getD i tree0).l)))) = true → ((!(!(Fl.nfN ((l.getD i tree0).kind) ((l.getD i tree0).k) ((l.getD i tree0).l)))) = true)), ((!(!(Fl.nfN ((l.getD i tree0).kind) ((l.getD i tree0).k) ((l.getD i tree0).l)))) = true → ((!(!(Fl.nfN ((l.getD i tree0).kind) ((l.getD i tree0).k) ((l.getD i tree0).l)))) = true)), ((!(!(Fl.nfN ((l.getD i tree0).kind) ((l.getD i tree0).k) ((l.getD i tree0).l)))) = true → ((!(!(Fl.nfN ((l.getD i tree0).kind) ((l.getD i tree0).k) ((l.getD i tree0).l)))) = true)), (((!(!(Fl.nfN ((l.getD i tree0).kind) ((l.getD i tree0).k) ((l.getD i tree0).l)))) && (q != 6)) = true → (((!(!(Fl.nfN ((l.getD i tree0).kind) ((l.getD i tree0).k) ((l.getD i tree0).l)))) && (q != 6)) = true)), (((!(!(Fl.nfN ((l.getD i tree0).kind) ((l.getD i tree0).k) ((l.getD i tree0).l)))) && (q != 6)) = true → (((!(!(Fl.nfN ((l.getD i tree0).kind) ((l.getD i tree0).k) ((l.getD i tree0).l)))) && (q != 6)) = true)), (((!(!(Fl.nfN ((l.getD i tree0).kind) ((l.getD i tree0).k) ((l.getD i tree0).l)))) && (q != 6)) = true → (((!(!(Fl.nfN ((l.getD i tree0).kind) ((l.getD i tree0).k) ((l.getD i tree0).l)))) && (q != 6)) = true)), (((!(!(Fl.nfN ((l.getD i tree0).kind) ((l.getD i tree0).k) ((l.getD i tree0).l)))) && (q != 6)) = true → ((0 : Int) ≤ (i : Int) ∧ (i : Int) < (l.length : Int))), (((!(!(Fl.nfN ((l.getD i tree0).kind) ((l.getD i tree0).k) ((l.getD i tree0).l)))) && (q != 6)) = true → (((!(!(Fl.nfN ((l.getD i tree0).kind) ((l.getD i tree0).k) ((l.getD i tree0).l)))) && (q != 6)) = true)), (((!(!(Fl.nfN ((l.getD i tree0).kind) ((l.getD i tree0).k) ((l.getD i tree0).l)))) && (q != 6)) = true → (((!(!(Fl.nfN ((l.getD i tree0).kind) ((l.getD i tree0).k) ((l.getD i tree0).l)))) && (q != 6)) = true)), (((!(!(Fl.nfN ((l.getD i tree0).kind) ((l.getD i tree0).k) ((l.getD i tree0).l)))) && (q != 6)) = true → (((!(!(Fl.nfN ((l.getD i tree0).kind) ((l.getD i tree0).k) ((l.getD i tree0).l)))) && (q != 6)) = true)), (((!(!(Fl.nfN ((l.getD i tree0).kind) ((l.getD i tree0).k) ((l.getD i tree0).l)))) && (q != 6)) = true → (((!(!(Fl.nfN ((l.getD i tree0).kind) ((l.getD i tree0).k) ((l.getD i tree0).l)))) && (q != 6)) = true)), (((!(!(Fl.nfN ((l.getD i tree0).kind) ((l.getD i tree0).k) ((l.getD i tree0).l)))) && (q != 6)) = true → (((!(!(Fl.nfN ((l.getD i tree0).kind) ((l.getD i tree0).k) ((l.getD i tree0).l)))) && (q != 6)) = true)), ((!(!(Fl.nfN ((l.getD i tree0).kind) ((l.getD i tree0).k) ((l.getD i tree0).l)))) = true → ((!(!(Fl.nfN ((l.getD i tree0).kind) ((l.getD i tree0).k) ((l.getD i tree0).l)))) = true)), ((!(!(Fl.nfN ((l.getD i tree0).kind) ((l.getD i tree0).k) ((l.getD i tree0).l)))) = true → ((q != 6) = true → ((!(!(Fl.nfN ((l.getD i tree0).kind) ((l.getD i tree0).k) ((l.getD i tree0).l)))) && (q != 6)) = true)), ((!(Fl.nfN ((l.getD i tree0).kind) ((l.getD i tree0).k) ((l.getD i tree0).l))) = false → (!(!(Fl.nfN ((l.getD i tree0).kind) ((l.getD i tree0).k) ((l.getD i tree0).l)))) = true)] [(78, .bool ((!(Fl.nfN ((l.getD i tree0).kind) ((l.getD i tree0).k) ((l.getD i tree0).l))) || ((q != 6) && (((l.getD i tree0).kind) == q))))] [] (by kernel_rfl) ?_ ?_
        ·
         refine (ap ?_ (ap ?_ (ap ?_ (ap ?_ (ap ?_ (ap ?_ (ap ?_ (ap ?_ (ap ?_ (ap ?_ (ap ?_ (ap ?_ (ap ?_ (ap ?_ (ap ?_ (ap ?_ (ap (by exact vcNot) az)))))))))))))))))
         all_goals
          first | omega | exact id | exact vcNot | exact vcG | exact vcH | (intro _; omega) | exact (fun _ h => h) | (intro h; simp at h; omega) | (simp only [List.length_cons, List.length_nil, List.length_append, List.length_map, List.length_set, List.length_replicate]; omega) | (intro h; simp [h]; done) | exact ⟨(hlen i (by omega)).1, (hlen i (by omega)).2, by have := hsub i (by omega); omega⟩ | (intro h; have := h1g _ h; omega) | (intro h; have h9 := h1g _ h; exact ⟨(hlen 0 (by omega)).1, (hlen 0 (by omega)).2, by have := hsub 0 (by omega); omega⟩) | (intro h; have := eq_of_beq h; constructor <;> omega) | (intro h; have := eq_of_beq h; omega) | (constructor <;> omega) | (intro _; constructor <;> omega) | exact True.intro | done
        refine fin_then ?_
        refine tri_cond (b := ((!(Fl.nfN ((l.getD i tree0).kind) ((l.getD i tree0).k) ((l.getD i tree0).l))) || ((q != 6) && (((l.getD i tree0).kind) == q)))) (by kernel_rfl) (fun hb5 => ?_) (fun hb5 => ?_)
        ·
         skip
         have h5 := hb5
         have hq := h5
         refine tri_seq ?_
         refine tri_regD hcx [] [2] [] [] [] [(2, .bool false)] [] (by kernel_rfl) ?_ ?_
         ·
          exact az
         refine fin_then ?_
         refine tri_ret ?_
         refine fin_block_ret ?_
         refine fin_then_ret ?_
         refine fin_then_ret ?_
         refine fin_block_ret ?_
         refine fin_then_ret ?_
         exact fin_ret [] rfl rfl trivial hcx (avs := [.bool false]) (by kernel_rfl) (congrArg AV.bool (show false = (Fl.nfN q k l) from (by first | exact Fl.nf_2 (by omega) | exact Fl.nf_3 (by omega) | exact Fl.nf_6no (by omega) hq6 | exact Fl.nf_45no (by omega) (by omega) | exact Fl.nf_def (by omega) (by omega) (by omega) (by omega) (by omega) | exact Fl.nf_bad (i := i) (by omega) hD hq | exact Fl.nf_ok (by omega) hD hok | done))) [] rfl
        ·
         skip
         have h5 := hb5
         have hq := h5
         refine tri_skip ?_
         refine fin_block ?_
         refine fin_then ?_
         refine tri_regD hcx [] [3] [1] [] [Fit ((i : Int) + 1)] [(3, .int ((i : Int) + 1))] [] (by kernel_rfl) ?_ ?_
         ·
          refine (ap ?_ az)
          first | omega | exact id | exact vcNot | exact vcG | exact vcH | (intro _; omega) | exact (fun _ h => h) | (intro h; simp at h; omega) | (simp only [List.length_cons, List.length_nil, List.length_append, List.length_map, List.length_set, List.length_replicate]; omega) | (intro h; simp [h]; done) | exact ⟨(hlen i (by omega)).1, (hlen i (by omega)).2, by have := hsub i (by omega); omega⟩ | (intro h; have := h1g _ h; omega) | (intro h; have h9 := h1g _ h; exact ⟨(hlen 0 (by omega)).1, (hlen 0 (by omega)).2, by have := hsub 0 (by omega); omega⟩) | (intro h; have := eq_of_beq h; constructor <;> omega) | (intro h; have := eq_of_beq h; omega) | (constructor <;> omega) | (intro _; constructor <;> omega) | exact True.intro | done
         refine fin_round (i + 1) ?_ ?_ ?_ ?_
         ·
          show (i + 1) ≤ l.length ∧ ((q = 6 ∧ 1 < k ∧ k < (l.length : Int)) ∨ ((q = 4 ∨ q = 5) ∧ 2 ≤ l.length)) ∧ ∀ j, j < (i + 1) → Fl.nfT (l.getD j tree0) = true ∧ (q = 6 ∨ (l.getD j tree0).kind ≠ q)
          exact ⟨by omega, hD, fun j hj => by rcases (by omega : j < i ∨ j = i) with h | rfl; exact hok j h; exact Fl.nf_step hq⟩
         ·
          show l.length - (i + 1) < l.length - i
          omega
         ·
          exact subE_mk (l := [.pto [.int q, .int v, .int k, .ls (.trees l)], .int ((i : Int) + 1)]) (m := [.pto [.int q, .int v, .int k, .ls (.trees l)], .int ((i + 1) : Int)]) (by kernel_rfl) (by kernel_rfl) (consE rfl (consE (congrArg AV.int (show ((i : Int) + 1) = ((i + 1) : Int) from (by first | rfl | omega | (simp; done)))) rfl))
         ·
          kernel_rfl
       ·
        skip
        have h4 := of_decide_eq_false hb4
        refine tri_exit ?_
        refine fin_then_exit ?_
        refine fin_then_exit ?_
        refine fin_block_same ?_
        refine fin_then ?_
        refine tri_seq ?_
        refine tri_regD hcx [] [2] [] [] [] [(2, .bool true)] [] (by kernel_rfl) ?_ ?_
        ·
         exact az
        refine fin_then ?_
        refine tri_ret ?_
        exact fin_ret [] rfl rfl trivial hcx (avs := [.bool true]) (by kernel_rfl) (congrArg AV.bool (show true = (Fl.nfN q k l) from (by first | exact Fl.nf_2 (by omega) | exact Fl.nf_3 (by omega) | exact Fl.nf_6no (by omega) hq6 | exact Fl.nf_45no (by omega) (by omega) | exact Fl.nf_def (by omega) (by omega) (by omega) (by omega) (by omega) | exact Fl.nf_bad (i := i) (by omega) hD hq | exact Fl.nf_ok (by omega) hD hok | done))) [] rfl
    ·
     skip
     have h2 := neB hb2
     refine tri_seq ?_
     refine tri_seq ?_
     refine tri_regD hcx [] [42] [5, 1] [] [] [(42, .bool (q == 4))] [] (by kernel_rfl) ?_ ?_
     ·
      exact az
     refine fin_then ?_
     refine tri_cond (b := (q == 4)) (by kernel_rfl) (fun hb6 => ?_) (fun hb6 => ?_)
     ·
      skip
      have h6 := eq_of_beq hb6
      refine tri_skip ?_
      refine fin_then ?_
      refine tri_cond (b := (q == 4)) (by kernel_rfl) (fun hb7 => ?_) (fun hb7 => ?_)
      ·
       skip
       have h7 := eq_of_beq hb7
       refine tri_seq ?_
       refine tri_regD hcx [] [48] [1] [] [] [(48, .bool (decide ((l.length : Int) < 2)))] [] (by kernel_rfl) ?_ ?_
       ·
        exact az
       refine fin_then ?_
       refine tri_cond (b := (decide ((l.length : Int) < 2))) (by kernel_rfl) (fun hb8 => ?_) (fun hb8 => ?_)
       ·
        skip
        have h8 := of_decide_eq_true hb8
        refine tri_seq ?_
        refine tri_regD hcx [] [2] [] [] [] [(2, .bool false)] [] (by kernel_rfl) ?_ ?_
        ·
         exact az
        refine fin_then ?_
        refine tri_ret ?_
        refine fin_block_ret ?_
        refine fin_then_ret ?_
        exact fin_ret [] rfl rfl trivial hcx (avs := [.bool false]) (by kernel_rfl) (congrArg AV.bool (show false = (Fl.nfN q k l) from (by first | exact Fl.nf_2 (by omega) | exact Fl.nf_3 (by omega) | exact Fl.nf_6no (by omega) hq6 | exact Fl.nf_45no (by omega) (by omega) | exact Fl.nf_def (by omega) (by omega) (by omega) (by omega) (by omega) | exact Fl.nf_bad (i := i) (by omega) hD hq | exact Fl.nf_ok (by omega) hD hok | done))) [] rfl
       ·
        skip
        have h8 := of_decide_eq_false hb8
        refine tri_skip ?_
        refine fin_block ?_
        refine fin_then ?_
        refine tri_seq ?_
        refine tri_seq ?_
        refine tri_regD hcx [] [3] [1] [] [] [(3, .int 0)] [] (by kernel_rfl) ?_ ?_
        ·
         exact az
        refine fin_then ?_
        refine tri_block ?_
        refine tri_loop (X := Nat) (fun x0 => x0 ≤ l.length ∧ ((q = 6 ∧ 1 < k ∧ k < (l.length : Int)) ∨ ((q = 4 ∨ q = 5) ∧ 2 ≤ l.length)) ∧ ∀ j, j < x0 → Fl.nfT (l.getD j tree0) = true ∧ (q = 6 ∨ (l.getD j tree0).kind ≠ q)) (fun x0 => [(1, .pto [.int q, .int v, .int k, .ls (.trees l)]), (3, .int (x0 : Int))]) (fun x0 => []) (fun x0 => l.length - x0) (0) ?_ ?_ ?_ ?_
        ·
         show 0 ≤ l.length ∧ ((q = 6 ∧ 1 < k ∧ k < (l.length : Int)) ∨ ((q = 4 ∨ q = 5) ∧ 2 ≤ l.length)) ∧ ∀ j, j < 0 → Fl.nfT (l.getD j tree0) = true ∧ (q = 6 ∨ (l.getD j tree0).kind ≠ q)
         exact ⟨Nat.zero_le _, by omega, fun j hj => by omega⟩
        ·
         exact subE_mk (l := [.pto [.int q, .int v, .int k, .ls (.trees l)], .int 0]) (m := [.pto [.int q, .int v, .int k, .ls (.trees l)], .int (0 : Int)]) (by kernel_rfl) (by kernel_rfl) (consE rfl (consE (congrArg AV.int (show 0 = (0 : Int) from (by first | rfl | omega | (simp; done)))) rfl))
        ·
         kernel_rfl
        ·
         intro i hI
         replace hI : i ≤ l.length ∧ ((q = 6 ∧ 1 < k ∧ k < (l.length : Int)) ∨ ((q = 4 ∨ q = 5) ∧ 2 ≤ l.length)) ∧ ∀ j, j < i → Fl.nfT (l.getD j tree0) = true ∧ (q = 6 ∨ (l.getD j tree0).kind ≠ q) := hI
         change Tri _ [(1, .pto [.int q, .int v, .int k, .ls (.trees l)]), (3, .int (i : Int))] [] _ _
         obtain ⟨hk, hD, hok⟩ := hI
         refine tri_seq ?_
         refine tri_seq ?_
         refine tri_regD hcx [] [53] [1, 3] [] [] [(53, .bool (decide ((i : Int) < (l.length : Int))))] [] (by kernel_rfl) ?_ ?_
         ·
          exact az
         refine fin_then ?_
         refine tri_cond (b := (decide ((i : Int) < (l.length : Int)))) (by kernel_rfl) (fun hb9 => ?_) (fun hb9 => ?_)
         ·
          skip
          have h9 := of_decide_eq_true hb9
          refine tri_skip ?_
          refine fin_then ?_
          refine tri_seq ?_
          refine tri_block ?_
          refine tri_seq ?_
          refine tri_drawD [0, 1, 0, 7, 15, 31, 63, 127, 255, 511, 1023, 2047, 4095, 8191, 4095, 32767, 65535, 131071, 4095, 266239, 1048575, 2097151, 4194303] hcx hmx [] [78] [1, 3] [] [((0 : Int) ≤ (i : Int) ∧ (i : Int) < (l.length : Int)), (((l.getD i tree0).l).length ≤ 2932031007317 ∧ Fl.lensL ((l.getD i tree0).l) ∧ Fl.sizeL ((l.getD i tree0).l) < nn), ((!(!(Fl.nfN ((l.getD i tree0).kind) ((l.getD i tree0).k) ((l.getD i tree0).l)))) = true → ((!(!(Fl.nfN ((l.getD i tree0).kind) ((l.getD i tree0).k) ((l.getD i tree0).l)))) = true)), ((!(!(Fl.nfN ((l.getD i tree0).kind) ((l.getD i tree0).k) ((l.getD i tree0).l)))) = true → ((!(!(Fl.nfN ((l.getD i tree0).kind) ((l.getD i tree0).k) ((l.getD i tree0).l)))) = true)), ((!(!(Fl.nfN ((l.getD i tree0).kind) ((l.getD i tree0).k) ((l.getD i tree0).l)))) = true → ((!(!(Fl.nfN ((l.getD i tree0).kind) ((l.getD i tree0).k) ((l.getD i tree0).l)))) = true)), (((!(!(Fl.nfN ((l.getD i tree0).kind) ((l.getD i tree0).k) ((l.getD i tree0).l)))) && (q != 6)) = true → (((!(!(Fl.nfN ((l.getD i tree0).kind) ((l.getD i tree0).k) ((l.getD i tree0).l)))) && (q != 6)) = true)), (((!(!(Fl.nfN ((l.getD i tree0).kind) ((l.getD i tree0).k) ((l.getD i tree0).l)))) && (q != 6)) = true → (((!(!(Fl.nfN ((l.getD i tree0).kind) ((l.getD i tree0).k) ((l.getD i tree0).l)))) && (q != 6)) = true)), (((!(!(Fl.nfN ((l.getD i tree0).kind) ((l.getD i tree0).k) ((l.getD i tree0).l)))) && (q != 6)) = true → (((!(!(Fl.nfN ((l.getD i tree0).kind) ((l.getD i tree0).k) ((l.getD i tree0).l)))) && (q != 6)) = true)), (((!(!(Fl.nfN ((l.getD i tree0).kind) ((l.getD i tree0).k) ((l.getD i tree0).l)))) && (q != 6)) = true → ((0 : Int) ≤ (i : Int) ∧ (i : Int) < (l.length : Int))), (((!(!(Fl.nfN ((l.getD i tree0).kind) ((l.getD i tree0).k) ((l.getD i tree0).l)))) && (q != 6)) = true → (((!(!(Fl.nfN ((l.getD i tree0).kind) ((l.getD i tree0).k) ((l.getD i tree0).l)))) && (q != 6)) = true)), (((!(!(Fl.nfN ((l.getD i tree0).kind) ((l.getD i tree0).k) ((l.getD i tree0).l)))) && (q != 6)) = true → (((!(!(Fl.nfN ((l.getD i tree0).kind) ((l.getD i tree0).k) ((l.getD i tree0).l)))) && (q != 6)) = true)), (((!(!(Fl.nfN ((l.getD i tree0).kind) ((l.getD i tree0).k) ((l.getD i tree0).l)))) && (q != 6)) = true → (((!(!(Fl.nfN ((l.getD i tree0).kind) ((l.getD i tree0).k) ((l.getD i tree0).l)))) && (q != 6)) = true)), (((!(!(Fl.nfN ((l.getD i tree0).kind) ((l.getD i tree0).k) ((l.getD i tree0).l)))) && (q != 6)) = true → (((!(!(Fl.nfN ((l.getD i tree0).kind) ((l.getD i tree0).k) ((l.getD i tree0).l)))) && (q != 6)) = true)), (((!(!(Fl.nfN ((l.getD i tree0).kind) ((l.getD i tree0).k) ((l.getD i tree0).l)))) && (q != 6)) = true → (((!(!(Fl.nfN ((l.getD i tree0).kind) ((l.getD i tree0).k) ((l.getD i tree0).l)))) && (q != 6)) = true)), ((!(!(Fl.nfN ((l.getD i tree0).kind) ((l.getD i tree0).k) ((l.getD i tree0).l)))) = true → ((!(!(Fl.nfN ((l.getD i tree0).kind) ((l.getD i tree0).k) ((l.getD i tree0).l)))) = true)), ((!(!(Fl.nfN ((l.getD i tree0).kind) ((l.getD i tree0).k) ((l.getD i tree0).l)))) = true → ((q != 6) = true → ((!(!(Fl.nfN ((l.getD i tree0).kind) ((l.getD i tree0).k) ((l.getD i tree0).l)))) && (q != 6)) = true)), ((!(Fl.nfN ((l.getD i tree0).kind) ((l.getD i tree0).k) ((l.getD i tree0).l))) = false → (!(!(Fl.nfN ((l.getD i tree0).kind) ((l.getD i tree0).k) ((l.getD i tree0).l)))) = true)] [(78, .bool ((!(Fl.nfN ((l.getD i tree0).kind) ((l.getD i tree0).k) ((l.getD i tree0).l))) || ((q != 6) && (((l.getD i tree0).kind) == q))))] [] (by kernel_rfl) ?_ ?_
          ·
           refine (ap ?_ (ap ?_ (ap ?_ (ap ?_ (ap ?_ (ap ?_ (ap ?_ (ap ?_ (ap ?_ (ap ?_ (ap ?_ (ap ?_ (ap ?_ (ap ?_ (ap ?_ (ap ?_ (ap (by exact vcNot) az)))))))))))))))))
           all_goals
            first | omega | exact id | exact vcNot | exact vcG | exact vcH | (intro _; omega) | exact (fun _ h => h) | (intro h; simp at h; omega) | (simp only [List.length_cons, List.length_nil, List.length_append, List.length_map, List.length_set, List.length_replicate]; omega) | (intro h; simp [h]; done) | exact ⟨(hlen i (by omega)).1, (hlen i (by omega)).2, by have := hsub i (by omega); omega⟩ | (intro h; have := h1g _ h; omega) | (intro h; have h9 := h1g _ h; exact ⟨(hlen 0 (by omega)).1, (hlen 0 (by omega)).2, by have := hsub 0 (by omega); omega⟩) | (intro h; have := eq_of_beq h; constructor <;> omega) | (intro h; have := eq_of_beq h; omega) | (constructor <;> omega) | (intro _; constructor <;> omega) | exact True.intro | done
          refine fin_then ?_
          refine tri_cond (b := ((!(Fl.nfN ((l.getD i tree0).kind) ((l.getD i tree0).k) ((l.getD i tree0).l))) || ((q != 6) && (((l.getD i tree0).kind) == q)))) (by kernel_rfl) (fun hb10 => ?_) (fun hb10 => ?_)
          ·
           skip
           have h10 := hb10
           have hq := h10
           refine tri_seq ?_
           refine tri_regD hcx [] [2] [] [] [] [(2, .bool false)] [] (by kernel_rfl) ?_ ?_
           ·
            exact az
           refine fin_then ?_
           refine tri_ret ?_
           refine fin_block_ret ?_
           refine fin_then_ret ?_
           refine fin_then_ret ?_
           refine fin_block_ret ?_
           refine fin_then_ret ?_
           exact fin_ret [] rfl rfl trivial hcx (avs := [.bool false]) (by kernel_rfl) (congrArg AV.bool (show false = (Fl.nfN q k l) from (by first | exact Fl.nf_2 (by omega) | exact Fl.nf_3 (by omega) | exact Fl.nf_6no (by omega) hq6 | exact Fl.nf_45no (by omega) (by omega) | exact Fl.nf_def (by omega) (by omega) (by omega) (by omega) (by omega) | exact Fl.nf_bad (i := i) (by omega) hD hq | exact Fl.nf_ok (by omega) hD hok | done))) [] rfl
          ·
           skip
           have h10 := hb10
           have hq := h10
           refine tri_skip ?_
           refine fin_block ?_
           refine fin_then ?_
           refine tri_regD hcx [] [3] [1] [] [Fit ((i : Int) + 1)] [(3, .int ((i : Int) + 1))] [] (by kernel_rfl) ?_ ?_
           ·
            refine (ap ?_ az)
            first | omega | exact id | exact vcNot | exact vcG | exact vcH | (intro _; omega) | exact (fun _ h => h) | (intro h; simp at h; omega) | (simp only [List.length_cons, List.length_nil, List.length_append, List.length_map, List.length_set, List.length_replicate]; omega) | (intro h; simp [h]; done) | exact ⟨(hlen i (by omega)).1, (hlen i (by omega)).2, by have := hsub i (by omega); omega⟩ | (intro h; have := h1g _ h; omega) | (intro h; have h9 := h1g _ h; exact ⟨(hlen 0 (by omega)).1, (hlen 0 (by omega)).2, by have := hsub 0 (by omega); omega⟩) | (intro h; have := eq_of_beq h; constructor <;> omega) | (intro h; have := eq_of_beq h; omega) | (constructor <;> omega) | (intro _; constructor <;> omega) | exact True.intro | done
           refine fin_round (i + 1) ?_ ?_ ?_ ?_
           ·
            show (i + 1) ≤ l.length ∧ ((q = 6 ∧ 1 < k ∧ k < (l.length : Int)) ∨ ((q = 4 ∨ q = 5) ∧ 2 ≤ l.length)) ∧ ∀ j, j < (i + 1) → Fl.nfT (l.getD j tree0) = true ∧ (q = 6 ∨ (l.getD j tree0).kind ≠ q)
            exact ⟨by omega, hD, fun j hj => by rcases (by omega : j < i ∨ j = i) with h | rfl; exact hok j h; exact Fl.nf_step hq⟩
           ·
            show l.length - (i + 1) < l.length - i
            omega
           ·
            exact subE_mk (l := [.pto [.int q, .int v, .int k, .ls (.trees l)], .int ((i : Int) + 1)]) (m := [.pto [.int q, .int v, .int k, .ls (.trees l)], .int ((i + 1) : Int)]) (by kernel_rfl) (by kernel_rfl) (consE rfl (consE (congrArg AV.int (show ((i : Int) + 1) = ((i + 1) : Int) from (by first | rfl | omega | (simp; done)))) rfl))
           ·
            kernel_rfl
         ·
          skip
          have h9 := of_decide_eq_false hb9
          refine tri_exit ?_
          refine fin_then_exit ?_
          refine fin_then_exit ?_
          refine fin_block_same ?_
          refine fin_then ?_
          refine tri_seq ?_
          refine tri_regD hcx [] [2] [] [] [] [(2, .bool true)] [] (by kernel_rfl) ?_ ?_
          ·
           exact az
          refine fin_then ?_
          refine tri_ret ?_
          exact fin_ret [] rfl rfl trivial hcx (avs := [.bool true]) (by kernel_rfl) (congrArg AV.bool (show true = (Fl.nfN q k l) from (by first | exact Fl.nf_2 (by omega) | exact Fl.nf_3 (by omega) | exact Fl.nf_6no (by omega) hq6 | exact Fl.nf_45no (by omega) (by omega) | exact Fl.nf_def (by omega) (by omega) (by omega) (by omega) (by omega) | exact Fl.nf_bad (i := i) (by omega) hD hq | exact Fl.nf_ok (by omega) hD hok | done))) [] rfl
      ·
       skip
       have h7 := neB hb7
       refine tri_seq ?_
       refine tri_regD hcx [] [2] [] [] [] [(2, .bool false)] [] (by kernel_rfl) ?_ ?_
       ·
        exact az
       refine fin_then ?_
       refine tri_ret ?_
       refine fin_block_ret ?_
       refine fin_then_ret ?_
       exact fin_ret [] rfl rfl trivial hcx (avs := [.bool false]) (by kernel_rfl) (congrArg AV.bool (show false = (Fl.nfN q k l) from (by first | exact Fl.nf_2 (by omega) | exact Fl.nf_3 (by omega) | exact Fl.nf_6no (by omega) hq6 | exact Fl.nf_45no (by omega) (by omega) | exact Fl.nf_def (by omega) (by omega) (by omega) (by omega) (by omega) | exact Fl.nf_bad (i := i) (by omega) hD hq | exact Fl.nf_ok (by omega) hD hok | done))) [] rfl
     ·
      skip
      have h6 := neB hb6
      refine tri_regD hcx [] [42] [1] [] [] [(42, .bool (q == 5))] [] (by kernel_rfl) ?_ ?_
      ·
       exact az
      refine fin_then ?_
      refine tri_cond (b := (q == 5)) (by kernel_rfl) (fun hb11 => ?_) (fun hb11 => ?_)
      ·
       skip
       have h11 := eq_of_beq hb11
       refine tri_seq ?_
       refine tri_regD hcx [] [48] [1] [] [] [(48, .bool (decide ((l.length : Int) < 2)))] [] (by kernel_rfl) ?_ ?_
       ·
        exact az
       refine fin_then ?_
       refine tri_cond (b := (decide ((l.length : Int) < 2))) (by kernel_rfl) (fun hb12 => ?_) (fun hb12 => ?_)
       ·
        skip
        have h12 := of_decide_eq_true hb12
        refine tri_seq ?_
        refine tri_regD hcx [] [2] [] [] [] [(2, .bool false)] [] (by kernel_rfl) ?_ ?_
        ·
         exact az
        refine fin_then ?_
        refine tri_ret ?_
        refine fin_block_ret ?_
        refine fin_then_ret ?_
        exact fin_ret [] rfl rfl trivial hcx (avs := [.bool false]) (by kernel_rfl) (congrArg AV.bool (show false = (Fl.nfN q k l) from (by first | exact Fl.nf_2 (by omega) | exact Fl.nf_3 (by omega) | exact Fl.nf_6no (by omega) hq6 | exact Fl.nf_45no (by omega) (by omega) | exact Fl.nf_def (by omega) (by omega) (by omega) (by omega) (by omega) | exact Fl.nf_bad (i := i) (by omega) hD hq | exact Fl.nf_ok (by omega) hD hok | done))) [] rfl
       ·
        skip
        have h12 := of_decide_eq_false hb12
        refine tri_skip ?_
        refine fin_block ?_
        refine fin_then ?_
        refine tri_seq ?_
        refine tri_seq ?_
        refine tri_regD hcx [] [3] [1] [] [] [(3, .int 0)] [] (by kernel_rfl) ?_ ?_
        ·
         exact az
        refine fin_then ?_
        refine tri_block ?_
        refine tri_loop (X := Nat) (fun x0 => x0 ≤ l.length ∧ ((q = 6 ∧ 1 < k ∧ k < (l.length : Int)) ∨ ((q = 4 ∨ q = 5) ∧ 2 ≤ l.length)) ∧ ∀ j, j < x0 → Fl.nfT (l.getD j tree0) = true ∧ (q = 6 ∨ (l.getD j tree0).kind ≠ q)) (fun x0 => [(1, .pto [.int q, .int v, .int k, .ls (.trees l)]), (3, .int (x0 : Int))]) (fun x0 => []) (fun x0 => l.length - x0) (0) ?_ ?_ ?_ ?_
        ·
         show 0 ≤ l.length ∧ ((q = 6 ∧ 1 < k ∧ k < (l.length : Int)) ∨ ((q = 4 ∨ q = 5) ∧ 2 ≤ l.length)) ∧ ∀ j, j < 0 → Fl.nfT (l.getD j tree0) = true ∧ (q = 6 ∨ (l.getD j tree0).kind ≠ q)
         exact ⟨Nat.zero_le _, by omega, fun j hj => by omega⟩
        ·
         exact subE_mk (l := [.pto [.int q, .int v, .int k, .ls (.trees l)], .int 0]) (m := [.pto [.int q, .int v, .int k, .ls (.trees l)], .int (0 : Int)]) (by kernel_rfl) (by kernel_rfl) (consE rfl (consE (congrArg AV.int (show 0 = (0 : Int) from (by first | rfl | omega | (simp; done)))) rfl))
        ·
         kernel_rfl
        ·
         intro i hI
         replace hI : i ≤ l.length ∧ ((q = 6 ∧ 1 < k ∧ k < (l.length : Int)) ∨ ((q = 4 ∨ q = 5) ∧ 2 ≤ l.length)) ∧ ∀ j, j < i → Fl.nfT (l.getD j tree0) = true ∧ (q = 6 ∨ (l.getD j tree0).kind ≠ q) := hI
         change Tri _ [(1, .pto [.int q, .int v, .int k, .ls (.trees l)]), (3, .int (i : Int))] [] _ _
         obtain ⟨hk, hD, hok⟩ := hI
         refine tri_seq ?_
         refine tri_seq ?_
         refine tri_regD hcx [] [53] [1, 3] [] [] [(53, .bool (decide ((i : Int) < (l.length : Int))))] [] (by kernel_rfl) ?_ ?_
         ·
          exact az
         refine fin_then ?_
         refine tri_cond (b := (decide ((i : Int) < (l.length : Int)))) (by kernel_rfl) (fun hb13 => ?_) (fun hb13 => ?_)
         ·
          skip
          have h13 := of_decide_eq_true hb13
          refine tri_skip ?_
          refine fin_then ?_
          refine tri_seq ?_
          refine tri_block ?_
          refine tri_seq ?_
          refine tri_drawD [0, 1, 0, 7, 15, 31, 63, 127, 255, 511, 1023, 2047, 4095, 8191, 4095, 32767, 65535, 131071, 4095, 266239, 1048575, 2097151, 4194303] hcx hmx [] [78] [1, 3] [] [((0 : Int) ≤ (i : Int) ∧ (i : Int) < (l.length : Int)), (((l.getD i tree0).l).length ≤ 2932031007317 ∧ Fl.lensL ((l.getD i tree0).l) ∧ Fl.sizeL ((l.getD i tree0).l) < nn), ((!(!(Fl.nfN ((l.getD i tree0).kind) ((l.getD i tree0).k) ((l.getD i tree0).l)))) = true → ((!(!(Fl.nfN ((l.getD i tree0).kind) ((l.getD i tree0).k) ((l.getD i tree0).l)))) = true)), ((!(!(Fl.nfN ((l.getD i tree0).kind) ((l.getD i tree0).k) ((l.getD i tree0).l)))) = true → ((!(!(Fl.nfN ((l.getD i tree0).kind) ((l.getD i tree0).k) ((l.getD i tree0).l)))) = true)), ((!(!(Fl.nfN ((l.getD i tree0).kind) ((l.getD i tree0).k) ((l.getD i tree0).l)))) = true → ((!(!(Fl.nfN ((l.getD i tree0).kind) ((l.getD i tree0).k) ((l.getD i tree0).l)))) = true)), (((!(!(Fl.nfN ((l.getD i tree0).kind) ((l.getD i tree0).k) ((l.getD i tree0).l)))) && (q != 6)) = true → (((!(!(Fl.nfN ((l.getD i tree0).kind) ((l.getD i tree0).k) ((l.getD i tree0).l)))) && (q != 6)) = true)), (((!(!(Fl.nfN ((l.getD i tree0).kind) ((l.getD i tree0).k) ((l.getD i tree0).l)))) && (q != 6)) = true → (((!(!(Fl.nfN ((l.getD i tree0).kind) ((l.getD i tree0).k) ((l.getD i tree0).l)))) && (q != 6)) = true)), (((!(!(Fl.nfN ((l.getD i tree0).kind) ((l.getD i tree0).k) ((l.getD i tree0).l)))) && (q != 6)) = true → (((!(!(Fl.nfN ((l.getD i tree0).kind) ((l.getD i tree0).k) ((l.getD i tree0).l)))) && (q != 6)) = true)), (((!(!(Fl.nfN ((l.getD i tree0).kind) ((l.getD i tree0).k) ((l.getD i tree0).l)))) && (q != 6)) = true → ((0 : Int) ≤ (i : Int) ∧ (i : Int) < (l.length : Int))), (((!(!(Fl.nfN ((l.getD i tree0).kind) ((l.getD i tree0).k) ((l.getD i tree0).l)))) && (q != 6)) = true → (((!(!(Fl.nfN ((l.getD i tree0).kind) ((l.getD i tree0).k) ((l.getD i tree0).l)))) && (q != 6)) = true)), (((!(!(Fl.nfN ((l.getD i tree0).kind) ((l.getD i tree0).k) ((l.getD i tree0).l)))) && (q != 6)) = true → (((!(!(Fl.nfN ((l.getD i tree0).kind) ((l.getD i tree0).k) ((l.getD i tree0).l)))) && (q != 6)) = true)), (((!(!(Fl.nfN ((l.getD i tree0).kind) ((l.getD i tree0).k) ((l.getD i tree0).l)))) && (q != 6)) = true → (((!(!(Fl.nfN ((l.getD i tree0).kind) ((l.getD i tree0).k) ((l.getD i tree0).l)))) && (q != 6)) = true)), (((!(!(Fl.nfN ((l.getD i tree0).kind) ((l.getD i tree0).k) ((l.getD i tree0).l)))) && (q != 6)) = true → (((!(!(Fl.nfN ((l.getD i tree0).kind) ((l.getD i tree0).k) ((l.getD i tree0).l)))) && (q != 6)) = true)), (((!(!(Fl.nfN ((l.getD i tree0).kind) ((l.getD i tree0).k) ((l.getD i tree0).l)))) && (q != 6)) = true → (((!(!(Fl.nfN ((l.getD i tree0).kind) ((l.getD i tree0).k) ((l.getD i tree0).l)))) && (q != 6)) = true)), ((!(!(Fl.nfN ((l.getD i tree0).kind) ((l.getD i tree0).k) ((l.getD i tree0).l)))) = true → ((!(!(Fl.nfN ((l.getD i tree0).kind) ((l.getD i tree0).k) ((l.getD i tree0).l)))) = true)), ((!(!(Fl.nfN ((l.getD i tree0).kind) ((l.getD i tree0).k) ((l.getD i tree0).l)))) = true → ((q != 6) = true → ((!(!(Fl.nfN ((l.getD i tree0).kind) ((l.getD i tree0).k) ((l.getD i tree0).l)))) && (q != 6)) = true)), ((!(Fl.nfN ((l.getD i tree0).kind) ((l.getD i tree0).k) ((l.getD i tree0).l))) = false → (!(!(Fl.nfN ((l.getD i tree0).kind) ((l.getD i tree0).k) ((l.getD i tree0).l)))) = true)] [(78, .bool ((!(Fl.nfN ((l.getD i tree0).kind) ((l.getD i tree0).k) ((l.getD i tree0).l))) || ((q != 6) && (((l.getD i tree0).kind) == q))))] [] (by kernel_rfl) ?_ ?_
          ·
           refine (ap ?_ (ap ?_ (ap ?_ (ap ?_ (ap ?_ (ap ?_ (ap ?_ (ap ?_ (ap ?_ (ap ?_ (ap ?_ (ap ?_ (ap ?_ (ap ?_ (ap ?_ (ap ?_ (ap (by exact vcNot) az)))))))))))))))))
           all_goals
            first | omega | exact id | exact vcNot | exact vcG | exact vcH | (intro _; omega) | exact (fun _ h => h) | (intro h; simp at h; omega) | (simp only [List.length_cons, List.length_nil, List.length_append, List.length_map, List.length_set, List.length_replicate]; omega) | (intro h; simp [h]; done) | exact ⟨(hlen i (by omega)).1, (hlen i (by omega)).2, by have := hsub i (by omega); omega⟩ | (intro h; have := h1g _ h; omega) | (intro h; have h9 := h1g _ h; exact ⟨(hlen 0 (by omega)).1, (hlen 0 (by omega)).2, by have := hsub 0 (by omega); omega⟩) | (intro h; have := eq_of_beq h; constructor <;> omega) | (intro h; have := eq_of_beq h; omega) | (constructor <;> omega) | (intro _; constructor <;> omega) | exact True.intro | done
          refine fin_then ?_
          refine tri_cond (b := ((!(Fl.nfN ((l.getD i tree0).kind) ((l.getD i tree0).k) ((l.getD i tree0).l))) || ((q != 6) && (((l.getD i tree0).kind) == q)))) (by kernel_rfl) (fun hb14 => ?_) (fun hb14 => ?_)
          ·
           skip
           have h14 := hb14
           have hq := h14
           refine tri_seq ?_
           refine tri_regD hcx [] [2] [] [] [] [(2, .bool false)] [] (by kernel_rfl) ?_ ?_
           ·
            exact az
           refine fin_then ?_
           refine tri_ret ?_
           refine fin_block_ret ?_
           refine fin_then_ret ?_
           refine fin_then_ret ?_
           refine fin_block_ret ?_
           refine fin_then_ret ?_
           exact fin_ret [] rfl rfl trivial hcx (avs := [.bool false]) (by kernel_rfl) (congrArg AV.bool (show false = (Fl.nfN q k l) from (by first | exact Fl.nf_2 (by omega) | exact Fl.nf_3 (by omega) | exact Fl.nf_6no (by omega) hq6 | exact Fl.nf_45no (by omega) (by omega) | exact Fl.nf_def (by omega) (by omega) (by omega) (by omega) (by omega) | exact Fl.nf_bad (i := i) (by omega) hD hq | exact Fl.nf_ok (by omega) hD hok | done))) [] rfl
          ·
           skip
           have h14 := hb14
           have hq := h14
           refine tri_skip ?_
           refine fin_block ?_
           refine fin_then ?_
           refine tri_regD hcx [] [3] [1] [] [Fit ((i : Int) + 1)] [(3, .int ((i : Int) + 1))] [] (by kernel_rfl) ?_ ?_
           ·
            refine (ap ?_ az)
            first | omega | exact id | exact vcNot | exact vcG | exact vcH | (intro _; omega) | exact (fun _ h => h) | (intro h; simp at h; omega) | (simp only [List.length_cons, List.length_nil, List.length_append, List.length_map, List.length_set, List.length_replicate]; omega) | (intro h; simp [h]; done) | exact ⟨(hlen i (by omega)).1, (hlen i (by omega)).2, by have := hsub i (by omega); omega⟩ | (intro h; have := h1g _ h; omega) | (intro h; have h9 := h1g _ h; exact ⟨(hlen 0 (by omega)).1, (hlen 0 (by omega)).2, by have := hsub 0 (by omega); omega⟩) | (intro h; have := eq_of_beq h; constructor <;> omega) | (intro h; have := eq_of_beq h; omega) | (constructor <;> omega) | (intro _; constructor <;> omega) | exact True.intro | done
           refine fin_round (i + 1) ?_ ?_ ?_ ?_
           ·
            show (i + 1) ≤ l.length ∧ ((q = 6 ∧ 1 < k ∧ k < (l.length : Int)) ∨ ((q = 4 ∨ q = 5) ∧ 2 ≤ l.length)) ∧ ∀ j, j < (i + 1) → Fl.nfT (l.getD j tree0) = true ∧ (q = 6 ∨ (l.getD j tree0).kind ≠ q)
            exact ⟨by omega, hD, fun j hj => by rcases (by omega : j < i ∨ j = i) with h | rfl; exact hok j h; exact Fl.nf_step hq⟩
           ·
            show l.length - (i + 1) < l.length - i
            omega
           ·
            exact subE_mk (l := [.pto [.int q, .int v, .int k, .ls (.trees l)], .int ((i : Int) + 1)]) (m := [.pto [.int q, .int v, .int k, .ls (.trees l)], .int ((i + 1) : Int)]) (by kernel_rfl) (by kernel_rfl) (consE rfl (consE (congrArg AV.int (show ((i : Int) + 1) = ((i + 1) : Int) from (by first | rfl | omega | (simp; done)))) rfl))
           ·
            kernel_rfl
         ·
          skip
          have h13 := of_decide_eq_false hb13
          refine tri_exit ?_
          refine fin_then_exit ?_
          refine fin_then_exit ?_
          refine fin_block_same ?_
          refine fin_then ?_
          refine tri_seq ?_
          refine tri_regD hcx [] [2] [] [] [] [(2, .bool true)] [] (by kernel_rfl) ?_ ?_
          ·
           exact az
          refine fin_then ?_
          refine tri_ret ?_
          exact fin_ret [] rfl rfl trivial hcx (avs := [.bool true]) (by kernel_rfl) (congrArg AV.bool (show true = (Fl.nfN q k l) from (by first | exact Fl.nf_2 (by omega) | exact Fl.nf_3 (by omega) | exact Fl.nf_6no (by omega) hq6 | exact Fl.nf_45no (by omega) (by omega) | exact Fl.nf_def (by omega) (by omega) (by omega) (by omega) (by omega) | exact Fl.nf_bad (i := i) (by omega) hD hq | exact Fl.nf_ok (by omega) hD hok | done))) [] rfl
      ·
       skip
       have h11 := neB hb11
       refine tri_seq ?_
       refine tri_regD hcx [] [2] [] [] [] [(2, .bool false)] [] (by kernel_rfl) ?_ ?_
       ·
        exact az
       refine fin_then ?_
       refine tri_ret ?_
       refine fin_block_ret ?_
       refine fin_then_ret ?_
       exact fin_ret [] rfl rfl trivial hcx (avs := [.bool false]) (by kernel_rfl) (congrArg AV.bool (show false = (Fl.nfN q k l) from (by first | exact Fl.nf_2 (by omega) | exact Fl.nf_3 (by omega) | exact Fl.nf_6no (by omega) hq6 | exact Fl.nf_45no (by omega) (by omega) | exact Fl.nf_def (by omega) (by omega) (by omega) (by omega) (by omega) | exact Fl.nf_bad (i := i) (by omega) hD hq | exact Fl.nf_ok (by omega) hD hok | done))) [] rfl
 ·
  cases hσ
theorem lPlain_all : ∀ nn, Sound Tryd.prog 18 (lPlain_σ nn) := sound_rec (sound_none (fn := Tryd.f18) Tryd.func18 (by kernel_rfl) rfl (fun args os p r outs hσ hp => by
  unfold lPlain_σ at hσ
  split at hσ
  · simp only [Option.some.injEq, Prod.mk.injEq] at hσ
    obtain ⟨rfl, rfl, rfl⟩ := hσ
    exact absurd hp.2.2 (Nat.not_lt_zero _)
  · cases hσ)) lPlain_step
def lPlain_τ : CtF
  | [.agg [.im (.val (.int .i64 q)), .im (.val (.int .i64 v)), .im (.val (.int .i64 k)), .im (.ls (.trees l))]], [] => some (l.length ≤ 2932031007317 ∧ Fl.lensL l, .bool (Fl.nfN q k l), [])
  | _, _ => none
theorem lPlain_sound : Sound Tryd.prog 18 lPlain_τ := sound_all lPlain_all (fun args os p r outs hσ hp => by
  unfold lPlain_τ at hσ
  split at hσ
  · rename_i q v k l
    simp only [Option.some.injEq, Prod.mk.injEq] at hσ
    obtain ⟨rfl, rfl, rfl⟩ := hσ
    exact ⟨Fl.sizeL l + 1, _, rfl, ⟨hp.1, hp.2, Nat.lt_succ_self _⟩⟩
  · cases hσ)
def cx_lFlatNormal : Cx := ⟨tyLFlatNormal, [(25, lV_σ), (26, lConst_σ), (21, (coeF [.id, .id, .ld (.trees [])] lOf_σ)), (20, (coeF [.agg [.id, .id, .id, .ld (.trees [])]] lNot_σ)), (15, (coeF [.agg [.id, .id, .id, .ld (.trees [])]] fSimple_σ)), (27, (coeF [.agg [.id, .id, .id, .ld (.trees [])], .agg [.id, .id, .id, .ld (.trees [])]] fSame_τ)), (12, (coeF [.agg [.id, .id, .id, .ld (.trees [])], .ld (.bools [])] fVal_τ)), (24, (coeF [.agg [.id, .id, .id, .ld (.trees [])]] fSize_σ)), (17, (coeF [.agg [.id, .id, .id, .ld (.trees [])], .id] fChk_σ)), (23, (coeF [.agg [.id, .id, .id, .ld (.trees [])]] fVars_σ)), (36, (coeF [.agg [.id, .id, .id, .ld (.trees [])], .id] rWeigh)), (10, lLive_σ), (11, (coeF [.agg [.id, .id, .id, .ld (.trees [])], .ld (.bools [])] lFew_σ)), (19, (coeF [.agg [.id, .id, .id, .ld (.trees [])]] rFew_σ)), (18, (coeF [.agg [.id, .id, .id, .ld (.trees [])]] lPlain_τ))]⟩
theorem cx_lFlatNormal_ok : CxOk Tryd.prog cx_lFlatNormal := cx_ok tyLFlatNormal_ok ⟨lV_sound, lConst_sound, (lOf_sound.coe [.id, .id, .ld (.trees [])] rfl), (lNot_sound.coe [.agg [.id, .id, .id, .ld (.trees [])]] rfl), (fSimple_sound.coe [.agg [.id, .id, .id, .ld (.trees [])]] rfl), (fSame_sound.coe [.agg [.id, .id, .id, .ld (.trees [])], .agg [.id, .id, .id, .ld (.trees [])]] rfl), (fVal_sound.coe [.agg [.id, .id, .id, .ld (.trees [])], .ld (.bools [])] rfl), (fSize_sound.coe [.agg [.id, .id, .id, .ld (.trees [])]] rfl), (fChk_sound.coe [.agg [.id, .id, .id, .ld (.trees [])], .id] rfl), (fVars_sound.coe [.agg [.id, .id, .id, .ld (.trees [])]] rfl), (rWeigh_sound.coe [.agg [.id, .id, .id, .ld (.trees [])], .id] rfl), lLive_sound, (lFew_sound.coe [.agg [.id, .id, .id, .ld (.trees [])], .ld (.bools [])] rfl), (rFew_sound.coe [.agg [.id, .id, .id, .ld (.trees [])]] rfl), (lPlain_sound.coe [.agg [.id, .id, .id, .ld (.trees [])]] rfl), trivial⟩
def lFlatNormal_σ : CtF
  | [.agg [.im (.val (.int .i64 q)), .im (.val (.int .i64 v)), .im (.val (.int .i64 k)), .im (.ls (.trees l))]], [] => some (l.length ≤ 2932031007317 ∧ Fl.lensL l ∧ Fl.sizeL l ≤ 1000000, .bool true, [])
  | _, _ => none
theorem lFlatNormal_sound : Sound Tryd.prog 6 lFlatNormal_σ := by
 refine sound_mk (cx := cx_lFlatNormal) (fn := Tryd.f6) Tryd.func6 (by kernel_rfl) rfl ?_
 intro w0 G0 args os p r outs hσ hp hm0 hd0
 have hcx : CxOk Tryd.prog cx_lFlatNormal := cx_lFlatNormal_ok
 unfold lFlatNormal_σ at hσ
 split at hσ
 ·
  rename_i q v k l
  simp only [Option.some.injEq, Prod.mk.injEq] at hσ
  obtain ⟨rfl, rfl, rfl⟩ := hσ
  obtain ⟨wW, wO, wm, wβ, wd⟩ := w0
  replace hm0 : wm = 0 := hm0
  subst hm0
  replace hd0 : wd = [] := hd0
  subst hd0
  refine ⟨by kernel_rfl, ?_⟩
  change Tri ⟨_, _, _, _, _, _⟩ [(0, .agg [.int q, .int v, .int k, .trees l])] [] _ _
  obtain ⟨hm1, hm2, hsz⟩ := hp
  have hst := Fl.size_node q v k l
  have hxl := Fl.simN_lens (q := q) (v := v) (k := k) hsz
  refine tri_seq ?_
  refine tri_regD hcx [(1000, .frz)] [1] [] [] [] [(1, .pto [.int q, .int v, .int k, .ls (.trees l)])] [] (by kernel_rfl) ?_ ?_
  ·
   exact az
  refine fin_then ?_
  refine tri_seq ?_
  refine tri_seq ?_
  refine tri_regD hcx [] [5] [1] [] [(True)] [(5, .bool (!true))] [] (by kernel_rfl) ?_ ?_
  ·
   refine (ap ?_ az)
   first | omega | exact id | exact vcNot | exact vcG | exact vcH | (intro _; omega) | exact (fun _ h => h) | (intro h; simp at h; omega) | (simp only [List.length_cons, List.length_nil, List.length_append, List.length_map, List.length_set, List.length_replicate]; omega) | (intro h; simp [h]; done) | exact True.intro | exact (fun _ => True.intro) | exact ⟨hm1, hm2, hsz⟩ | exact Fl.simN_lens hsz | (intro _; omega) | exact (fun _ => hxl) | (unfold maxLen; decide) | done
  refine fin_then ?_
  refine tri_cond (b := (!true)) (by kernel_rfl) (fun hb0 => ?_) (fun hb0 => ?_)
  ·
   skip
   have h0 := (notB_t hb0)
   exact absurd h0 (by decide)
  ·
   skip
   have h0 := (notB_f hb0)
   refine tri_skip ?_
   refine fin_then ?_
   refine tri_seq ?_
   refine tri_seq ?_
   refine tri_regD hcx [] [13] [1] [] [(([] : List (Bool)).length ≤ maxLen), ((!(!(Fl.fewT l && decide ((([] : List (Bool)).length : Int) ≤ 1000)))) = true → ((!(!(Fl.fewT l && decide ((([] : List (Bool)).length : Int) ≤ 1000)))) = true)), ((!(!(Fl.fewT l && decide ((([] : List (Bool)).length : Int) ≤ 1000)))) = true → (Fl.sizeT (.node q v k l) ≤ 1000000000000000)), ((!(!(Fl.fewT l && decide ((([] : List (Bool)).length : Int) ≤ 1000)))) = true → ((!(!(Fl.fewT l && decide ((([] : List (Bool)).length : Int) ≤ 1000)))) = true)), ((!(Fl.fewT l && decide ((([] : List (Bool)).length : Int) ≤ 1000))) = false → (!(!(Fl.fewT l && decide ((([] : List (Bool)).length : Int) ≤ 1000)))) = true)] [(13, .bool ((!(Fl.fewT l && decide ((([] : List (Bool)).length : Int) ≤ 1000))) || ((Fl.chkN (65536 : Int) q v k l) != 0)))] [] (by kernel_rfl) ?_ ?_
   ·
    refine (ap ?_ (ap ?_ (ap ?_ (ap ?_ (ap (by exact vcNot) az)))))
    all_goals
     first | omega | exact id | exact vcNot | exact vcG | exact vcH | (intro _; omega) | exact (fun _ h => h) | (intro h; simp at h; omega) | (simp only [List.length_cons, List.length_nil, List.length_append, List.length_map, List.length_set, List.length_replicate]; omega) | (intro h; simp [h]; done) | exact True.intro | exact (fun _ => True.intro) | exact ⟨hm1, hm2, hsz⟩ | exact Fl.simN_lens hsz | (intro _; omega) | exact (fun _ => hxl) | (unfold maxLen; decide) | done
   refine fin_then ?_
   refine tri_cond (b := ((!(Fl.fewT l && decide ((([] : List (Bool)).length : Int) ≤ 1000))) || ((Fl.chkN (65536 : Int) q v k l) != 0))) (by kernel_rfl) (fun hb1 => ?_) (fun hb1 => ?_)
   ·
    skip
    have h1 := hb1
    skip
    refine tri_seq ?_
    refine tri_regD hcx [] [2] [] [] [] [(2, .bool true)] [] (by kernel_rfl) ?_ ?_
    ·
     exact az
    refine fin_then ?_
    refine tri_ret ?_
    refine fin_then_ret ?_
    exact fin_ret [] rfl rfl trivial hcx (avs := [.bool true]) (by kernel_rfl) rfl [] rfl
   ·
    skip
    have h1 := hb1
    have h0 : Fl.chkN 65536 q v k l = 0 := by simpa using (Bool.or_eq_false_iff.1 h1).2
    refine tri_skip ?_
    refine fin_then ?_
    refine tri_seq ?_
    refine tri_regD hcx [(1002, .to 603)] [3] [] [] [(l.length ≤ 2932031007317 ∧ Fl.lensL l ∧ Fl.sizeL l ≤ 1000000)] [(3, .loc 603 0)] [(603, .box [.int ((Fl.simN q v k l).kind), .int ((Fl.simN q v k l).v), .int ((Fl.simN q v k l).k), .trees ((Fl.simN q v k l).l)])] (by kernel_rfl) ?_ ?_
    ·
     refine (ap ?_ az)
     first | omega | exact id | exact vcNot | exact vcG | exact vcH | (intro _; omega) | exact (fun _ h => h) | (intro h; simp at h; omega) | (simp only [List.length_cons, List.length_nil, List.length_append, List.length_map, List.length_set, List.length_replicate]; omega) | (intro h; simp [h]; done) | exact True.intro | exact (fun _ => True.intro) | exact ⟨hm1, hm2, hsz⟩ | exact Fl.simN_lens hsz | (intro _; omega) | exact (fun _ => hxl) | (unfold maxLen; decide) | done
    refine fin_then ?_
    refine tri_seq ?_
    refine tri_regD hcx [] [2] [] [] [((((Fl.simN q v k l).kind) == 1) = true → ((((Fl.simN q v k l).kind) == 1) = true)), ((((Fl.simN q v k l).kind) == 1) = true → ((((Fl.simN q v k l).kind) == 1) = true)), ((((Fl.simN q v k l).kind) == 1) = true → ((((Fl.simN q v k l).kind) == 1) = true)), ((((Fl.simN q v k l).kind) == 1) = true → (((Fl.simN q v k l).kind) == 1) = true), ((!((((Fl.simN q v k l).kind) == 1) && ((((Fl.simN q v k l).l).length : Int) == 0))) = true → ((!((((Fl.simN q v k l).kind) == 1) && ((((Fl.simN q v k l).l).length : Int) == 0))) = true)), ((!((((Fl.simN q v k l).kind) == 1) && ((((Fl.simN q v k l).l).length : Int) == 0))) = true → (((Fl.simN q v k l).l).length ≤ 2932031007317 ∧ Fl.lensL ((Fl.simN q v k l).l))), (((((Fl.simN q v k l).kind) == 1) && ((((Fl.simN q v k l).l).length : Int) == 0)) = false → (!((((Fl.simN q v k l).kind) == 1) && ((((Fl.simN q v k l).l).length : Int) == 0))) = true)] [(2, .bool (((((Fl.simN q v k l).kind) == 1) && ((((Fl.simN q v k l).l).length : Int) == 0)) || (Fl.nfN ((Fl.simN q v k l).kind) ((Fl.simN q v k l).k) ((Fl.simN q v k l).l))))] [] (by kernel_rfl) ?_ ?_
    ·
     refine (ap ?_ (ap ?_ (ap ?_ (ap (by exact id) (ap ?_ (ap ?_ (ap (by exact vcNot) az)))))))
     all_goals
      first | omega | exact id | exact vcNot | exact vcG | exact vcH | (intro _; omega) | exact (fun _ h => h) | (intro h; simp at h; omega) | (simp only [List.length_cons, List.length_nil, List.length_append, List.length_map, List.length_set, List.length_replicate]; omega) | (intro h; simp [h]; done) | exact True.intro | exact (fun _ => True.intro) | exact ⟨hm1, hm2, hsz⟩ | exact Fl.simN_lens hsz | (intro _; omega) | exact (fun _ => hxl) | (unfold maxLen; decide) | done
    refine fin_then ?_
    refine tri_ret ?_
    exact fin_ret [] rfl rfl trivial hcx (avs := [.bool (((((Fl.simN q v k l).kind) == 1) && ((((Fl.simN q v k l).l).length : Int) == 0)) || (Fl.nfN ((Fl.simN q v k l).kind) ((Fl.simN q v k l).k) ((Fl.simN q v k l).l)))]) (by kernel_rfl) (congrArg AV.bool (show (((((Fl.simN q v k l).kind) == 1) && ((((Fl.simN q v k l).l).length : Int) == 0)) || (Fl.nfN ((Fl.simN q v k l).kind) ((Fl.simN q v k l).k) ((Fl.simN q v k l).l))) = true from (by exact Fl.norm_ok h0))) [] rfl
 ·
  cases hσ
end Go.Proofs.YtlhjliigfecihaaDoor.En
