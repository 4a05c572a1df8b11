/- The law CnfDimacsRoundTrip. -/
import Derived.Test.YtiokflebeojokaaGreatDoorLive14S
import Derived.Test.YtiokflebeojokaaGreatDoorLaw14V
namespace Go.Proofs.YtiokflebeojokaaGreatDoor.En
open Go Go.RowKit
set_option linter.unusedVariables false
set_option linter.unusedSimpArgs false
set_option linter.unnecessarySimpa false
attribute [local irreducible] Cn.getV Cn.wordsV Cn.putB Cn.chkV
abbrev rtB (N : Int) (L : List (List Int)) : List Int := if Cn.chkV N L = 0 then Cn.putB N L else []
abbrev rtT (N : Int) (L : List (List Int)) (m : List Int) : List Int := (([99] ++ m) ++ [10, 32, 9]) ++ (rtB N L)
abbrev rtA (N : Int) (L : List (List Int)) (m : List Int) : List Int := ([] ++ (rtB N L)) ++ (([99] ++ m) ++ [10, 32, 9])
def tyL14CnfDimacsRoundTrip : List (Nat × TD) := [(3, ⟨1, false, [.int .i64 0], [], none, 8, false, 1, 1⟩),
  (5, ⟨1, false, [.int .u8 0], [], none, 1, false, 2, 8⟩),
  (22, ⟨1, false, [.slice none 0 0], [], some 25, 24, false, 0, 0⟩),
  (24, ⟨2, true, [.int .i64 0, .slice none 0 0], [(0, 3), (1, 22)], none, 32, false, 0, 6⟩),
  (25, ⟨1, false, [.slice none 0 0], [], some 3, 24, false, 0, 3⟩),
  (32, ⟨1, false, [.int .i64 0], [], none, 8, false, 1, 1⟩),
  (41, ⟨1, false, [.slice none 0 0], [], some 5, 24, false, 0, 0⟩)]
theorem tyL14CnfDimacsRoundTrip_ok : AllTy Tryz.prog tyL14CnfDimacsRoundTrip := ⟨⟨by kernel_rfl, by kernel_rfl⟩, ⟨by kernel_rfl, by kernel_rfl⟩, ⟨by kernel_rfl, by kernel_rfl⟩, ⟨by kernel_rfl, by kernel_rfl⟩, ⟨by kernel_rfl, by kernel_rfl⟩, ⟨by kernel_rfl, by kernel_rfl⟩, ⟨by kernel_rfl, by kernel_rfl⟩, trivial⟩
def cx_lCnfDimacsRoundTrip : Cx := ⟨tyL14CnfDimacsRoundTrip, [(31, (coeF [.ld (.bytes [])] cGet_σ)), (17, (coeF [.agg [.id, .ld (.intss [])]] cCheck_σ)), (19, (coeF [.agg [.id, .ld (.intss [])], .agg [.id, .ld (.intss [])]] cSame_σ)), (13, (coeF [.agg [.id, .ld (.intss [])]] lFew_σ)), (12, live14_σ), (29, sPut)], true⟩
theorem cx_lCnfDimacsRoundTrip_ok : CxOk Tryz.prog cx_lCnfDimacsRoundTrip := cx_ok tyL14CnfDimacsRoundTrip_ok ⟨(cGet_sound.coe [.ld (.bytes [])] rfl), (cCheck_sound.coe [.agg [.id, .ld (.intss [])]] rfl), (cSame_sound.coe [.agg [.id, .ld (.intss [])], .agg [.id, .ld (.intss [])]] rfl), (lFew_sound.coe [.agg [.id, .ld (.intss [])]] rfl), live14_sound, sPut_sound, trivial⟩
def lCnfDimacsRoundTrip_σ : CtF
  | [.agg [.im (.val (.int .i64 N)), .im (.ls (.intss L))], .im (.ls (.bytes m))], [] => some (L.length ≤ maxLen ∧ (∀ l ∈ L, l.length ≤ 17592186043904) ∧ m.length ≤ maxLen ∧ Cn.isBytes m, .bool true, [])
  | _, _ => none
theorem lCnfDimacsRoundTrip_sound : Sound Tryz.prog 9 lCnfDimacsRoundTrip_σ := by
 refine sound_mk (cx := cx_lCnfDimacsRoundTrip) (fn := Tryz.f9) Tryz.func9 (by kernel_rfl) rfl ?_
 intro w0 G0 args os p r outs hσ hp hm0 hd0
 have hcx : CxOk Tryz.prog cx_lCnfDimacsRoundTrip := cx_lCnfDimacsRoundTrip_ok
 unfold lCnfDimacsRoundTrip_σ at hσ
 split at hσ
 ·
  rename_i N L m
  simp only [Option.some.injEq, Prod.mk.injEq] at hσ
  obtain ⟨rfl, rfl, rfl⟩ := hσ
  obtain ⟨wW, wO, wm, wβ, wd⟩ := w0
  replace hm0 : wm = 0 := hm0
  subst hm0
  replace hd0 : wd = [] := hd0
  subst hd0
  refine ⟨by kernel_rfl, ?_⟩
  change Tri ⟨_, _, _, _, _, _⟩ [(0, .agg [.int N, .intss L]), (1, .bytes m)] [] _ _
  obtain ⟨hL, hLm, hm, hbm⟩ := hp
  have hm9 := hm
  unfold maxLen at hm9
  refine tri_seq ?_
  refine tri_regD hcx [(1000, .frz)] [2] [1] [] [] [(2, .pto [.int N, .ls (.intss L)])] [] (by kernel_rfl) ?_ ?_
  ·
   exact az
  refine fin_then ?_
  refine tri_seq ?_
  refine tri_seq ?_
  refine tri_regD hcx [] [17] [2, 1] [] [(True)] [(17, .bool (!true))] [] (by kernel_rfl) ?_ ?_
  ·
   refine (ap ?_ az)
   first | exact True.intro | exact id | exact hL | exact (fun h => (Bool.and_eq_true_iff.1 h).1) | exact (fun _ h => h) | exact (fun _ => hGA) | exact (fun _ => hGT) | omega | exact hPL | exact (fun _ => hPL) | exact (fun _ => hL) | exact (fun h => (Bool.and_eq_true_iff.1 h).1) | exact (fun _ h => h) | exact ⟨by omega, fun l hl => by have := hLs l hl; omega, by omega⟩ | exact ⟨by omega, hBb⟩ | (constructor <;> omega) | (intro _; omega) | (simp only [List.length_cons, List.length_nil, List.length_append]; omega) | (simp only [List.length_cons, List.length_nil, List.length_append, hBl2]; omega) | exact ⟨by simp only [List.length_cons, List.length_nil, List.length_append]; omega, Cn.rt_bytes1 hbm hBb⟩ | exact ⟨by simp only [List.length_cons, List.length_nil, List.length_append]; omega, Cn.rt_bytes2 hbm hBb⟩ | done
  refine fin_then ?_
  refine tri_cond (b := (!true)) (by kernel_rfl) (fun hb0 => ?_) (fun hb0 => ?_)
  ·
   skip
   have h0 := hb0
   cases h0
  ·
   skip
   have h0 := (notB_f hb0)
   refine tri_skip ?_
   refine fin_then ?_
   refine tri_seq ?_
   refine tri_seq ?_
   refine tri_regD hcx [] [25] [2, 1] [] [(L.length ≤ maxLen), ((!(!(Cn.fewP L))) = true → ((!(!(Cn.fewP L))) = true)), ((!(!(Cn.fewP L))) = true → ((!(!(Cn.fewP L))) = true)), ((!(Cn.fewP L)) = false → (!(!(Cn.fewP L))) = true)] [(25, .bool ((!(Cn.fewP L)) || (decide ((m.length : Int) > 100))))] [] (by kernel_rfl) ?_ ?_
   ·
    refine (ap ?_ (ap ?_ (ap ?_ (ap (by exact vcNot) az))))
    all_goals
     first | exact True.intro | exact id | exact hL | exact (fun h => (Bool.and_eq_true_iff.1 h).1) | exact (fun _ h => h) | exact (fun _ => hGA) | exact (fun _ => hGT) | omega | exact hPL | exact (fun _ => hPL) | exact (fun _ => hL) | exact (fun h => (Bool.and_eq_true_iff.1 h).1) | exact (fun _ h => h) | exact ⟨by omega, fun l hl => by have := hLs l hl; omega, by omega⟩ | exact ⟨by omega, hBb⟩ | (constructor <;> omega) | (intro _; omega) | (simp only [List.length_cons, List.length_nil, List.length_append]; omega) | (simp only [List.length_cons, List.length_nil, List.length_append, hBl2]; omega) | exact ⟨by simp only [List.length_cons, List.length_nil, List.length_append]; omega, Cn.rt_bytes1 hbm hBb⟩ | exact ⟨by simp only [List.length_cons, List.length_nil, List.length_append]; omega, Cn.rt_bytes2 hbm hBb⟩ | done
   refine fin_then ?_
   refine tri_cond (b := ((!(Cn.fewP L)) || (decide ((m.length : Int) > 100)))) (by kernel_rfl) (fun hb1 => ?_) (fun hb1 => ?_)
   ·
    skip
    have h1 := hb1
    skip
    refine tri_seq ?_
    refine tri_regD hcx [] [4] [] [] [] [(4, .bool true)] [] (by kernel_rfl) ?_ ?_
    ·
     exact az
    refine fin_then ?_
    refine tri_ret ?_
    refine fin_then_ret ?_
    exact fin_ret [] rfl rfl trivial hcx (avs := [.bool true]) (by kernel_rfl) rfl [] rfl
   ·
    skip
    have h1 := hb1
    have hz : Cn.fewP L = true ∧ m.length ≤ 100 := by have hz := h1; simp only [Bool.or_eq_false_iff, Bool.not_eq_false'] at hz; exact ⟨hz.1, by have := hz.2; simp at this; omega⟩
    obtain ⟨hs1, hs2⟩ := Cn.few_size hLm hz.1
    have hz2 := hz.2
    have hLs : ∀ l ∈ L, l.length ≤ 1000 := fun l hl => by have := Cn.size_mem hl; omega
    have hPL : L.length ≤ maxLen ∧ ∀ l ∈ L, l.length ≤ maxLen := ⟨hL, fun l hl => by have := hLs l hl; unfold maxLen; omega⟩
    refine tri_skip ?_
    refine fin_then ?_
    refine tri_seq ?_
    refine tri_regD hcx [] [5, 6] [2, 1] [] [(L.length ≤ 1000000 ∧ (∀ l ∈ L, l.length ≤ 1000000000) ∧ Cn.sizeL L ≤ 1000000000)] [(5, .bytes (rtB N L)), (6, .int (Cn.chkV N L))] [] (by kernel_rfl) ?_ ?_
    ·
     refine (ap ?_ az)
     first | exact True.intro | exact id | exact hL | exact (fun h => (Bool.and_eq_true_iff.1 h).1) | exact (fun _ h => h) | exact (fun _ => hGA) | exact (fun _ => hGT) | omega | exact hPL | exact (fun _ => hPL) | exact (fun _ => hL) | exact (fun h => (Bool.and_eq_true_iff.1 h).1) | exact (fun _ h => h) | exact ⟨by omega, fun l hl => by have := hLs l hl; omega, by omega⟩ | exact ⟨by omega, hBb⟩ | (constructor <;> omega) | (intro _; omega) | (simp only [List.length_cons, List.length_nil, List.length_append]; omega) | (simp only [List.length_cons, List.length_nil, List.length_append, hBl2]; omega) | exact ⟨by simp only [List.length_cons, List.length_nil, List.length_append]; omega, Cn.rt_bytes1 hbm hBb⟩ | exact ⟨by simp only [List.length_cons, List.length_nil, List.length_append]; omega, Cn.rt_bytes2 hbm hBb⟩ | done
    refine fin_then ?_
    refine tri_seq ?_
    refine tri_seq ?_
    refine tri_regD hcx [] [32] [5, 6, 2, 1] [] [] [(32, .bool ((Cn.chkV N L) != 0))] [] (by kernel_rfl) ?_ ?_
    ·
     exact az
    refine fin_then ?_
    refine tri_cond (b := ((Cn.chkV N L) != 0)) (by kernel_rfl) (fun hb2 => ?_) (fun hb2 => ?_)
    ·
     skip
     have h2 := hb2
     have hne : ¬ Cn.chkV N L = 0 := by simpa using h2
     refine tri_seq ?_
     refine tri_regD hcx [] [4] [] [] [(L.length ≤ maxLen ∧ ∀ l ∈ L, l.length ≤ maxLen), (((Cn.chkV N L) == (Cn.chkV N L)) = true → (((Cn.chkV N L) == (Cn.chkV N L)) = true)), (((Cn.chkV N L) == (Cn.chkV N L)) = true → (((Cn.chkV N L) == (Cn.chkV N L)) = true)), (((Cn.chkV N L) == (Cn.chkV N L)) = true → ((Cn.chkV N L) == (Cn.chkV N L)) = true)] [(4, .bool (((Cn.chkV N L) == (Cn.chkV N L)) && (((rtB N L).length : Int) == 0)))] [] (by kernel_rfl) ?_ ?_
     ·
      refine (ap ?_ (ap ?_ (ap ?_ (ap (by exact id) az))))
      all_goals
       first | exact True.intro | exact id | exact hL | exact (fun h => (Bool.and_eq_true_iff.1 h).1) | exact (fun _ h => h) | exact (fun _ => hGA) | exact (fun _ => hGT) | omega | exact hPL | exact (fun _ => hPL) | exact (fun _ => hL) | exact (fun h => (Bool.and_eq_true_iff.1 h).1) | exact (fun _ h => h) | exact ⟨by omega, fun l hl => by have := hLs l hl; omega, by omega⟩ | exact ⟨by omega, hBb⟩ | (constructor <;> omega) | (intro _; omega) | (simp only [List.length_cons, List.length_nil, List.length_append]; omega) | (simp only [List.length_cons, List.length_nil, List.length_append, hBl2]; omega) | exact ⟨by simp only [List.length_cons, List.length_nil, List.length_append]; omega, Cn.rt_bytes1 hbm hBb⟩ | exact ⟨by simp only [List.length_cons, List.length_nil, List.length_append]; omega, Cn.rt_bytes2 hbm hBb⟩ | done
     refine fin_then ?_
     refine tri_ret ?_
     refine fin_then_ret ?_
     exact fin_ret [] rfl rfl trivial hcx (avs := [.bool (((Cn.chkV N L) == (Cn.chkV N L)) && (((rtB N L).length : Int) == 0))]) (by kernel_rfl) (congrArg AV.bool (show (((Cn.chkV N L) == (Cn.chkV N L)) && (((rtB N L).length : Int) == 0)) = true from (by (have hr : rtB N L = [] := if_neg hne; rw [hr]; simp)))) [] rfl
    ·
     skip
     have h2 := hb2
     have he : Cn.chkV N L = 0 := by simpa using h2
     have hpl := Cn.put_len he
     have hB : (rtB N L) = Cn.putB N L := if_pos he
     have hpb := Cn.put_bytes N L
     have hBl : (rtB N L).length ≤ 30000 := by rw [hB]; omega
     have hBb : Cn.isBytes (rtB N L) := by rw [hB]; exact hpb
     have hG : Cn.getV (Cn.wordsV (rtB N L)) = (N, L, 0) := by rw [hB]; exact Cn.get_put he
     refine tri_skip ?_
     refine fin_then ?_
     refine tri_seq ?_
     refine tri_regD hcx [(1005, .to 607)] [7, 8] [5, 2, 1] [] [((rtB N L).length ≤ 100000 ∧ Cn.isBytes (rtB N L))] [(7, .loc 607 0), (8, .int ((Cn.getV (Cn.wordsV (rtB N L))).2.2))] [(607, .box [.int ((Cn.getV (Cn.wordsV (rtB N L))).1), .intss ((Cn.getV (Cn.wordsV (rtB N L))).2.1)])] (by kernel_rfl) ?_ ?_
     ·
      refine (ap ?_ az)
      first | exact True.intro | exact id | exact hL | exact (fun h => (Bool.and_eq_true_iff.1 h).1) | exact (fun _ h => h) | exact (fun _ => hGA) | exact (fun _ => hGT) | omega | exact hPL | exact (fun _ => hPL) | exact (fun _ => hL) | exact (fun h => (Bool.and_eq_true_iff.1 h).1) | exact (fun _ h => h) | exact ⟨by omega, fun l hl => by have := hLs l hl; omega, by omega⟩ | exact ⟨by omega, hBb⟩ | (constructor <;> omega) | (intro _; omega) | (simp only [List.length_cons, List.length_nil, List.length_append]; omega) | (simp only [List.length_cons, List.length_nil, List.length_append, hBl2]; omega) | exact ⟨by simp only [List.length_cons, List.length_nil, List.length_append]; omega, Cn.rt_bytes1 hbm hBb⟩ | exact ⟨by simp only [List.length_cons, List.length_nil, List.length_append]; omega, Cn.rt_bytes2 hbm hBb⟩ | done
     refine fin_then ?_
     refine tri_seq ?_
     refine tri_seq ?_
     refine tri_regD hcx [] [54] [5, 2, 1] [] [((!(((Cn.getV (Cn.wordsV (rtB N L))).2.2) != 0)) = true → ((!(((Cn.getV (Cn.wordsV (rtB N L))).2.2) != 0)) = true)), ((!(((Cn.getV (Cn.wordsV (rtB N L))).2.2) != 0)) = true → ((!(((Cn.getV (Cn.wordsV (rtB N L))).2.2) != 0)) = true)), ((!(((Cn.getV (Cn.wordsV (rtB N L))).2.2) != 0)) = true → (L.length ≤ maxLen ∧ (∀ l ∈ L, l.length ≤ maxLen))), ((!(((Cn.getV (Cn.wordsV (rtB N L))).2.2) != 0)) = true → ((!(((Cn.getV (Cn.wordsV (rtB N L))).2.2) != 0)) = true)), ((((Cn.getV (Cn.wordsV (rtB N L))).2.2) != 0) = false → (!(((Cn.getV (Cn.wordsV (rtB N L))).2.2) != 0)) = true)] [(54, .bool ((((Cn.getV (Cn.wordsV (rtB N L))).2.2) != 0) || (!((N == ((Cn.getV (Cn.wordsV (rtB N L))).1)) && decide (L = ((Cn.getV (Cn.wordsV (rtB N L))).2.1))))))] [] (by kernel_rfl) ?_ ?_
     ·
      refine (ap ?_ (ap ?_ (ap ?_ (ap ?_ (ap (by exact vcNot) az)))))
      all_goals
       first | exact True.intro | exact id | exact hL | exact (fun h => (Bool.and_eq_true_iff.1 h).1) | exact (fun _ h => h) | exact (fun _ => hGA) | exact (fun _ => hGT) | omega | exact hPL | exact (fun _ => hPL) | exact (fun _ => hL) | exact (fun h => (Bool.and_eq_true_iff.1 h).1) | exact (fun _ h => h) | exact ⟨by omega, fun l hl => by have := hLs l hl; omega, by omega⟩ | exact ⟨by omega, hBb⟩ | (constructor <;> omega) | (intro _; omega) | (simp only [List.length_cons, List.length_nil, List.length_append]; omega) | (simp only [List.length_cons, List.length_nil, List.length_append, hBl2]; omega) | exact ⟨by simp only [List.length_cons, List.length_nil, List.length_append]; omega, Cn.rt_bytes1 hbm hBb⟩ | exact ⟨by simp only [List.length_cons, List.length_nil, List.length_append]; omega, Cn.rt_bytes2 hbm hBb⟩ | done
     refine fin_then ?_
     refine tri_cond (b := ((((Cn.getV (Cn.wordsV (rtB N L))).2.2) != 0) || (!((N == ((Cn.getV (Cn.wordsV (rtB N L))).1)) && decide (L = ((Cn.getV (Cn.wordsV (rtB N L))).2.1)))))) (by kernel_rfl) (fun hb3 => ?_) (fun hb3 => ?_)
     ·
      skip
      have h3 := hb3
      (have hz := h3; rw [hG] at hz; simp at hz)
     ·
      skip
      have h3 := hb3
      skip
      refine tri_skip ?_
      refine fin_then ?_
      refine tri_seq ?_
      refine tri_seq ?_
      refine tri_regD hcx [] [9] [5, 2, 1] [] [] [(9, .int 0)] [] (by kernel_rfl) ?_ ?_
      ·
       exact az
      refine fin_then ?_
      refine tri_block ?_
      refine tri_loop (X := Nat) (fun x0 => x0 ≤ m.length ∧ ∀ j, j < x0 → m.getD j 0 ≠ 10) (fun x0 => [(1, .bytes m), (2, .pto [.int N, .ls (.intss L)]), (5, .bytes (rtB N L)), (9, .int (x0 : Int))]) (fun x0 => []) (fun x0 => m.length - x0) (0) ?_ ?_ ?_ ?_
      ·
       show 0 ≤ m.length ∧ ∀ j, j < 0 → m.getD j 0 ≠ 10
       exact ⟨Nat.zero_le _, fun j hj => by omega⟩
      ·
       exact subE_mk (l := [.bytes m, .pto [.int N, .ls (.intss L)], .bytes (rtB N L), .int 0]) (m := [.bytes m, .pto [.int N, .ls (.intss L)], .bytes (rtB N L), .int (0 : Int)]) (by kernel_rfl) (by kernel_rfl) (consE rfl (consE rfl (consE rfl (consE (congrArg AV.int (show 0 = (0 : Int) from (by first | rfl | omega | (simp; done)))) rfl))))
      ·
       kernel_rfl
      ·
       intro i hI
       replace hI : i ≤ m.length ∧ ∀ j, j < i → m.getD j 0 ≠ 10 := hI
       change Tri _ [(1, .bytes m), (2, .pto [.int N, .ls (.intss L)]), (5, .bytes (rtB N L)), (9, .int (i : Int))] [] _ _
       obtain ⟨hk, hok⟩ := hI
       refine tri_seq ?_
       refine tri_seq ?_
       refine tri_regD hcx [] [58] [1, 2, 5, 9] [] [] [(58, .bool (decide ((i : Int) < (m.length : Int))))] [] (by kernel_rfl) ?_ ?_
       ·
        exact az
       refine fin_then ?_
       refine tri_cond (b := (decide ((i : Int) < (m.length : Int)))) (by kernel_rfl) (fun hb4 => ?_) (fun hb4 => ?_)
       ·
        skip
        have h4 := of_decide_eq_true hb4
        refine tri_skip ?_
        refine fin_then ?_
        refine tri_seq ?_
        refine tri_block ?_
        refine tri_seq ?_
        refine tri_regD hcx [] [65] [1, 2, 5, 9] [] [((0 : Int) ≤ (i : Int) ∧ (i : Int) < (m.length : Int))] [(65, .bool ((m.getD i 0) == 10))] [] (by kernel_rfl) ?_ ?_
        ·
         refine (ap ?_ az)
         first | exact True.intro | exact id | exact hL | exact (fun h => (Bool.and_eq_true_iff.1 h).1) | exact (fun _ h => h) | exact (fun _ => hGA) | exact (fun _ => hGT) | omega | exact hPL | exact (fun _ => hPL) | exact (fun _ => hL) | exact (fun h => (Bool.and_eq_true_iff.1 h).1) | exact (fun _ h => h) | exact ⟨by omega, fun l hl => by have := hLs l hl; omega, by omega⟩ | exact ⟨by omega, hBb⟩ | (constructor <;> omega) | (intro _; omega) | (simp only [List.length_cons, List.length_nil, List.length_append]; omega) | (simp only [List.length_cons, List.length_nil, List.length_append, hBl2]; omega) | exact ⟨by simp only [List.length_cons, List.length_nil, List.length_append]; omega, Cn.rt_bytes1 hbm hBb⟩ | exact ⟨by simp only [List.length_cons, List.length_nil, List.length_append]; omega, Cn.rt_bytes2 hbm hBb⟩ | done
        refine fin_then ?_
        refine tri_cond (b := ((m.getD i 0) == 10)) (by kernel_rfl) (fun hb5 => ?_) (fun hb5 => ?_)
        ·
         skip
         have h5 := hb5
         skip
         refine tri_seq ?_
         refine tri_regD hcx [] [4] [] [] [] [(4, .bool true)] [] (by kernel_rfl) ?_ ?_
         ·
          exact az
         refine fin_then ?_
         refine tri_ret ?_
         refine fin_block_ret ?_
         refine fin_then_ret ?_
         refine fin_then_ret ?_
         refine fin_block_ret ?_
         refine fin_then_ret ?_
         exact fin_ret [] rfl rfl trivial hcx (avs := [.bool true]) (by kernel_rfl) rfl [] rfl
        ·
         skip
         have h5 := hb5
         have hq : m.getD i 0 ≠ 10 := by simpa using h5
         refine tri_skip ?_
         refine fin_block ?_
         refine fin_then ?_
         refine tri_regD hcx [] [9] [1, 2, 5] [] [Fit ((i : Int) + 1)] [(9, .int ((i : Int) + 1))] [] (by kernel_rfl) ?_ ?_
         ·
          refine (ap ?_ az)
          first | exact True.intro | exact id | exact hL | exact (fun h => (Bool.and_eq_true_iff.1 h).1) | exact (fun _ h => h) | exact (fun _ => hGA) | exact (fun _ => hGT) | omega | exact hPL | exact (fun _ => hPL) | exact (fun _ => hL) | exact (fun h => (Bool.and_eq_true_iff.1 h).1) | exact (fun _ h => h) | exact ⟨by omega, fun l hl => by have := hLs l hl; omega, by omega⟩ | exact ⟨by omega, hBb⟩ | (constructor <;> omega) | (intro _; omega) | (simp only [List.length_cons, List.length_nil, List.length_append]; omega) | (simp only [List.length_cons, List.length_nil, List.length_append, hBl2]; omega) | exact ⟨by simp only [List.length_cons, List.length_nil, List.length_append]; omega, Cn.rt_bytes1 hbm hBb⟩ | exact ⟨by simp only [List.length_cons, List.length_nil, List.length_append]; omega, Cn.rt_bytes2 hbm hBb⟩ | done
         refine fin_round (i + 1) ?_ ?_ ?_ ?_
         ·
          show (i + 1) ≤ m.length ∧ ∀ j, j < (i + 1) → m.getD j 0 ≠ 10
          exact ⟨by omega, fun j hj => by rcases (by omega : j < i ∨ j = i) with h | rfl; exact hok j h; exact hq⟩
         ·
          show m.length - (i + 1) < m.length - i
          omega
         ·
          exact subE_mk (l := [.bytes m, .pto [.int N, .ls (.intss L)], .bytes (rtB N L), .int ((i : Int) + 1)]) (m := [.bytes m, .pto [.int N, .ls (.intss L)], .bytes (rtB N L), .int ((i + 1) : Int)]) (by kernel_rfl) (by kernel_rfl) (consE rfl (consE rfl (consE rfl (consE (congrArg AV.int (show ((i : Int) + 1) = ((i + 1) : Int) from (by first | rfl | omega | (simp; done)))) rfl))))
         ·
          kernel_rfl
       ·
        skip
        have h4 := of_decide_eq_false hb4
        have hno := Cn.rt_no (by omega) hok
        have e1 := Cn.rt_get1 he hno
        have e2 := Cn.rt_get2 he hno
        have hGT : (Cn.getV (Cn.wordsV (rtT N L m))).2.1.length ≤ maxLen ∧ ∀ l ∈ (Cn.getV (Cn.wordsV (rtT N L m))).2.1, l.length ≤ maxLen := by rw [e1]; exact hPL
        have hGA : (Cn.getV (Cn.wordsV (rtA N L m))).2.1.length ≤ maxLen ∧ ∀ l ∈ (Cn.getV (Cn.wordsV (rtA N L m))).2.1, l.length ≤ maxLen := by rw [e2]; exact hPL
        refine tri_exit ?_
        refine fin_then_exit ?_
        refine fin_then_exit ?_
        refine fin_block_same ?_
        refine fin_then ?_
        refine tri_seq ?_
        refine tri_regD hcx [(1003, .to 269)] [10] [2, 5] [] [(0 < [99].length), (([99].length + m.length) * 1 ≤ 140737488355328)] [(10, .row 269)] [(269, .row 5 (.bytes ([99] ++ m)))] (by kernel_rfl) ?_ ?_
        ·
         refine (ap ?_ (ap ?_ az))
         all_goals
          first | exact True.intro | exact id | exact hL | exact (fun h => (Bool.and_eq_true_iff.1 h).1) | exact (fun _ h => h) | exact (fun _ => hGA) | exact (fun _ => hGT) | omega | exact hPL | exact (fun _ => hPL) | exact (fun _ => hL) | exact (fun h => (Bool.and_eq_true_iff.1 h).1) | exact (fun _ h => h) | exact ⟨by omega, fun l hl => by have := hLs l hl; omega, by omega⟩ | exact ⟨by omega, hBb⟩ | (constructor <;> omega) | (intro _; omega) | (simp only [List.length_cons, List.length_nil, List.length_append]; omega) | (simp only [List.length_cons, List.length_nil, List.length_append, hBl2]; omega) | exact ⟨by simp only [List.length_cons, List.length_nil, List.length_append]; omega, Cn.rt_bytes1 hbm hBb⟩ | exact ⟨by simp only [List.length_cons, List.length_nil, List.length_append]; omega, Cn.rt_bytes2 hbm hBb⟩ | done
        refine fin_then ?_
        refine tri_seq ?_
        refine tri_regD hcx [(1002, .to 269)] [10] [2, 5] [] [((([99] ++ m).length + [10, 32, 9].length) * 1 ≤ 140737488355328)] [(10, .row 269)] [(269, .row 5 (.bytes (([99] ++ m) ++ [10, 32, 9])))] (by kernel_rfl) ?_ ?_
        ·
         refine (ap ?_ az)
         first | exact True.intro | exact id | exact hL | exact (fun h => (Bool.and_eq_true_iff.1 h).1) | exact (fun _ h => h) | exact (fun _ => hGA) | exact (fun _ => hGT) | omega | exact hPL | exact (fun _ => hPL) | exact (fun _ => hL) | exact (fun h => (Bool.and_eq_true_iff.1 h).1) | exact (fun _ h => h) | exact ⟨by omega, fun l hl => by have := hLs l hl; omega, by omega⟩ | exact ⟨by omega, hBb⟩ | (constructor <;> omega) | (intro _; omega) | (simp only [List.length_cons, List.length_nil, List.length_append]; omega) | (simp only [List.length_cons, List.length_nil, List.length_append, hBl2]; omega) | exact ⟨by simp only [List.length_cons, List.length_nil, List.length_append]; omega, Cn.rt_bytes1 hbm hBb⟩ | exact ⟨by simp only [List.length_cons, List.length_nil, List.length_append]; omega, Cn.rt_bytes2 hbm hBb⟩ | done
        refine fin_then ?_
        refine tri_seq ?_
        refine tri_regD hcx [(1002, .to 275)] [11] [10, 2, 5] [269] [((([] : List Int).length + (rtB N L).length) * 1 ≤ 140737488355328)] [(11, .row 275)] [(275, .row 5 (.bytes ([] ++ (rtB N L))))] (by kernel_rfl) ?_ ?_
        ·
         refine (ap ?_ az)
         first | exact True.intro | exact id | exact hL | exact (fun h => (Bool.and_eq_true_iff.1 h).1) | exact (fun _ h => h) | exact (fun _ => hGA) | exact (fun _ => hGT) | omega | exact hPL | exact (fun _ => hPL) | exact (fun _ => hL) | exact (fun h => (Bool.and_eq_true_iff.1 h).1) | exact (fun _ h => h) | exact ⟨by omega, fun l hl => by have := hLs l hl; omega, by omega⟩ | exact ⟨by omega, hBb⟩ | (constructor <;> omega) | (intro _; omega) | (simp only [List.length_cons, List.length_nil, List.length_append]; omega) | (simp only [List.length_cons, List.length_nil, List.length_append, hBl2]; omega) | exact ⟨by simp only [List.length_cons, List.length_nil, List.length_append]; omega, Cn.rt_bytes1 hbm hBb⟩ | exact ⟨by simp only [List.length_cons, List.length_nil, List.length_append]; omega, Cn.rt_bytes2 hbm hBb⟩ | done
        refine fin_then ?_
        refine tri_seq ?_
        refine tri_regD hcx [(1002, .to 275)] [11] [10, 2, 5] [269] [((([] ++ (rtB N L)).length + (([99] ++ m) ++ [10, 32, 9]).length) * 1 ≤ 140737488355328)] [(11, .row 275)] [(275, .row 5 (.bytes (rtA N L m)))] (by kernel_rfl) ?_ ?_
        ·
         refine (ap ?_ az)
         first | exact True.intro | exact id | exact hL | exact (fun h => (Bool.and_eq_true_iff.1 h).1) | exact (fun _ h => h) | exact (fun _ => hGA) | exact (fun _ => hGT) | omega | exact hPL | exact (fun _ => hPL) | exact (fun _ => hL) | exact (fun h => (Bool.and_eq_true_iff.1 h).1) | exact (fun _ h => h) | exact ⟨by omega, fun l hl => by have := hLs l hl; omega, by omega⟩ | exact ⟨by omega, hBb⟩ | (constructor <;> omega) | (intro _; omega) | (simp only [List.length_cons, List.length_nil, List.length_append]; omega) | (simp only [List.length_cons, List.length_nil, List.length_append, hBl2]; omega) | exact ⟨by simp only [List.length_cons, List.length_nil, List.length_append]; omega, Cn.rt_bytes1 hbm hBb⟩ | exact ⟨by simp only [List.length_cons, List.length_nil, List.length_append]; omega, Cn.rt_bytes2 hbm hBb⟩ | done
        refine fin_then ?_
        refine tri_seq ?_
        refine tri_regD hcx [(1002, .to 269)] [10] [11, 2] [275] [(((([99] ++ m) ++ [10, 32, 9]).length + (rtB N L).length) * 1 ≤ 140737488355328)] [(10, .row 269)] [(269, .row 5 (.bytes (rtT N L m)))] (by kernel_rfl) ?_ ?_
        ·
         refine (ap ?_ az)
         first | exact True.intro | exact id | exact hL | exact (fun h => (Bool.and_eq_true_iff.1 h).1) | exact (fun _ h => h) | exact (fun _ => hGA) | exact (fun _ => hGT) | omega | exact hPL | exact (fun _ => hPL) | exact (fun _ => hL) | exact (fun h => (Bool.and_eq_true_iff.1 h).1) | exact (fun _ h => h) | exact ⟨by omega, fun l hl => by have := hLs l hl; omega, by omega⟩ | exact ⟨by omega, hBb⟩ | (constructor <;> omega) | (intro _; omega) | (simp only [List.length_cons, List.length_nil, List.length_append]; omega) | (simp only [List.length_cons, List.length_nil, List.length_append, hBl2]; omega) | exact ⟨by simp only [List.length_cons, List.length_nil, List.length_append]; omega, Cn.rt_bytes1 hbm hBb⟩ | exact ⟨by simp only [List.length_cons, List.length_nil, List.length_append]; omega, Cn.rt_bytes2 hbm hBb⟩ | done
        refine fin_then ?_
        refine tri_seq ?_
        refine tri_ren (ρ := [(269, .frz), (275, .frz)]) (keys := [10, 11, 2]) (E' := [(10, .bytes (rtT N L m)), (11, .bytes (rtA N L m)), (2, .pto [.int N, .ls (.intss L)])]) (H' := []) (by kernel_rfl) ?_
        refine tri_regD hcx [(1005, .to 612)] [12, 13] [11, 2] [] [((rtT N L m).length ≤ 100000 ∧ Cn.isBytes (rtT N L m))] [(12, .loc 612 0), (13, .int ((Cn.getV (Cn.wordsV (rtT N L m))).2.2))] [(612, .box [.int ((Cn.getV (Cn.wordsV (rtT N L m))).1), .intss ((Cn.getV (Cn.wordsV (rtT N L m))).2.1)])] (by kernel_rfl) ?_ ?_
        ·
         refine (ap ?_ az)
         first | exact True.intro | exact id | exact hL | exact (fun h => (Bool.and_eq_true_iff.1 h).1) | exact (fun _ h => h) | exact (fun _ => hGA) | exact (fun _ => hGT) | omega | exact hPL | exact (fun _ => hPL) | exact (fun _ => hL) | exact (fun h => (Bool.and_eq_true_iff.1 h).1) | exact (fun _ h => h) | exact ⟨by omega, fun l hl => by have := hLs l hl; omega, by omega⟩ | exact ⟨by omega, hBb⟩ | (constructor <;> omega) | (intro _; omega) | (simp only [List.length_cons, List.length_nil, List.length_append]; omega) | (simp only [List.length_cons, List.length_nil, List.length_append, hBl2]; omega) | exact ⟨by simp only [List.length_cons, List.length_nil, List.length_append]; omega, Cn.rt_bytes1 hbm hBb⟩ | exact ⟨by simp only [List.length_cons, List.length_nil, List.length_append]; omega, Cn.rt_bytes2 hbm hBb⟩ | done
        refine fin_then ?_
        refine tri_seq ?_
        refine tri_ren (ρ := [(612, .to 612)]) (keys := [12, 13, 11, 2]) (E' := [(12, .loc 612 0), (13, .int ((Cn.getV (Cn.wordsV (rtT N L m))).2.2)), (11, .bytes (rtA N L m)), (2, .pto [.int N, .ls (.intss L)])]) (H' := [(612, .box [.int ((Cn.getV (Cn.wordsV (rtT N L m))).1), .intss ((Cn.getV (Cn.wordsV (rtT N L m))).2.1)])]) (by kernel_rfl) ?_
        refine tri_regD hcx [(1005, .to 614)] [14, 15] [12, 13, 2] [612] [((rtA N L m).length ≤ 100000 ∧ Cn.isBytes (rtA N L m))] [(14, .loc 614 0), (15, .int ((Cn.getV (Cn.wordsV (rtA N L m))).2.2))] [(614, .box [.int ((Cn.getV (Cn.wordsV (rtA N L m))).1), .intss ((Cn.getV (Cn.wordsV (rtA N L m))).2.1)])] (by kernel_rfl) ?_ ?_
        ·
         refine (ap ?_ az)
         first | exact True.intro | exact id | exact hL | exact (fun h => (Bool.and_eq_true_iff.1 h).1) | exact (fun _ h => h) | exact (fun _ => hGA) | exact (fun _ => hGT) | omega | exact hPL | exact (fun _ => hPL) | exact (fun _ => hL) | exact (fun h => (Bool.and_eq_true_iff.1 h).1) | exact (fun _ h => h) | exact ⟨by omega, fun l hl => by have := hLs l hl; omega, by omega⟩ | exact ⟨by omega, hBb⟩ | (constructor <;> omega) | (intro _; omega) | (simp only [List.length_cons, List.length_nil, List.length_append]; omega) | (simp only [List.length_cons, List.length_nil, List.length_append, hBl2]; omega) | exact ⟨by simp only [List.length_cons, List.length_nil, List.length_append]; omega, Cn.rt_bytes1 hbm hBb⟩ | exact ⟨by simp only [List.length_cons, List.length_nil, List.length_append]; omega, Cn.rt_bytes2 hbm hBb⟩ | done
        refine fin_then ?_
        refine tri_seq ?_
        refine tri_regD hcx [] [4] [] [] [((((Cn.getV (Cn.wordsV (rtT N L m))).2.2) == 0) = true → ((((Cn.getV (Cn.wordsV (rtT N L m))).2.2) == 0) = true)), ((((Cn.getV (Cn.wordsV (rtT N L m))).2.2) == 0) = true → (((Cn.getV (Cn.wordsV (rtT N L m))).2.2) == 0) = true), (((((Cn.getV (Cn.wordsV (rtT N L m))).2.2) == 0) && (((Cn.getV (Cn.wordsV (rtA N L m))).2.2) == 0)) = true → (((((Cn.getV (Cn.wordsV (rtT N L m))).2.2) == 0) && (((Cn.getV (Cn.wordsV (rtA N L m))).2.2) == 0)) = true)), (((((Cn.getV (Cn.wordsV (rtT N L m))).2.2) == 0) && (((Cn.getV (Cn.wordsV (rtA N L m))).2.2) == 0)) = true → (((((Cn.getV (Cn.wordsV (rtT N L m))).2.2) == 0) && (((Cn.getV (Cn.wordsV (rtA N L m))).2.2) == 0)) = true)), (((((Cn.getV (Cn.wordsV (rtT N L m))).2.2) == 0) && (((Cn.getV (Cn.wordsV (rtA N L m))).2.2) == 0)) = true → (((Cn.getV (Cn.wordsV (rtT N L m))).2.1).length ≤ maxLen ∧ (∀ l ∈ ((Cn.getV (Cn.wordsV (rtT N L m))).2.1), l.length ≤ maxLen))), (((((Cn.getV (Cn.wordsV (rtT N L m))).2.2) == 0) && (((Cn.getV (Cn.wordsV (rtA N L m))).2.2) == 0)) = true → ((((Cn.getV (Cn.wordsV (rtT N L m))).2.2) == 0) && (((Cn.getV (Cn.wordsV (rtA N L m))).2.2) == 0)) = true), ((((((Cn.getV (Cn.wordsV (rtT N L m))).2.2) == 0) && (((Cn.getV (Cn.wordsV (rtA N L m))).2.2) == 0)) && ((((Cn.getV (Cn.wordsV (rtT N L m))).1) == N) && decide (((Cn.getV (Cn.wordsV (rtT N L m))).2.1) = L))) = true → ((((((Cn.getV (Cn.wordsV (rtT N L m))).2.2) == 0) && (((Cn.getV (Cn.wordsV (rtA N L m))).2.2) == 0)) && ((((Cn.getV (Cn.wordsV (rtT N L m))).1) == N) && decide (((Cn.getV (Cn.wordsV (rtT N L m))).2.1) = L))) = true)), ((((((Cn.getV (Cn.wordsV (rtT N L m))).2.2) == 0) && (((Cn.getV (Cn.wordsV (rtA N L m))).2.2) == 0)) && ((((Cn.getV (Cn.wordsV (rtT N L m))).1) == N) && decide (((Cn.getV (Cn.wordsV (rtT N L m))).2.1) = L))) = true → ((((((Cn.getV (Cn.wordsV (rtT N L m))).2.2) == 0) && (((Cn.getV (Cn.wordsV (rtA N L m))).2.2) == 0)) && ((((Cn.getV (Cn.wordsV (rtT N L m))).1) == N) && decide (((Cn.getV (Cn.wordsV (rtT N L m))).2.1) = L))) = true)), ((((((Cn.getV (Cn.wordsV (rtT N L m))).2.2) == 0) && (((Cn.getV (Cn.wordsV (rtA N L m))).2.2) == 0)) && ((((Cn.getV (Cn.wordsV (rtT N L m))).1) == N) && decide (((Cn.getV (Cn.wordsV (rtT N L m))).2.1) = L))) = true → (((Cn.getV (Cn.wordsV (rtA N L m))).2.1).length ≤ maxLen ∧ (∀ l ∈ ((Cn.getV (Cn.wordsV (rtA N L m))).2.1), l.length ≤ maxLen))), ((((((Cn.getV (Cn.wordsV (rtT N L m))).2.2) == 0) && (((Cn.getV (Cn.wordsV (rtA N L m))).2.2) == 0)) && ((((Cn.getV (Cn.wordsV (rtT N L m))).1) == N) && decide (((Cn.getV (Cn.wordsV (rtT N L m))).2.1) = L))) = true → (((((Cn.getV (Cn.wordsV (rtT N L m))).2.2) == 0) && (((Cn.getV (Cn.wordsV (rtA N L m))).2.2) == 0)) && ((((Cn.getV (Cn.wordsV (rtT N L m))).1) == N) && decide (((Cn.getV (Cn.wordsV (rtT N L m))).2.1) = L))) = true)] [(4, .bool ((((((Cn.getV (Cn.wordsV (rtT N L m))).2.2) == 0) && (((Cn.getV (Cn.wordsV (rtA N L m))).2.2) == 0)) && ((((Cn.getV (Cn.wordsV (rtT N L m))).1) == N) && decide (((Cn.getV (Cn.wordsV (rtT N L m))).2.1) = L))) && ((((Cn.getV (Cn.wordsV (rtA N L m))).1) == N) && decide (((Cn.getV (Cn.wordsV (rtA N L m))).2.1) = L))))] [] (by kernel_rfl) ?_ ?_
        ·
         refine (ap ?_ (ap (by exact id) (ap ?_ (ap ?_ (ap ?_ (ap (by exact id) (ap ?_ (ap ?_ (ap ?_ (ap (by exact id) az))))))))))
         all_goals
          first | exact True.intro | exact id | exact hL | exact (fun h => (Bool.and_eq_true_iff.1 h).1) | exact (fun _ h => h) | exact (fun _ => hGA) | exact (fun _ => hGT) | omega | exact hPL | exact (fun _ => hPL) | exact (fun _ => hL) | exact (fun h => (Bool.and_eq_true_iff.1 h).1) | exact (fun _ h => h) | exact ⟨by omega, fun l hl => by have := hLs l hl; omega, by omega⟩ | exact ⟨by omega, hBb⟩ | (constructor <;> omega) | (intro _; omega) | (simp only [List.length_cons, List.length_nil, List.length_append]; omega) | (simp only [List.length_cons, List.length_nil, List.length_append, hBl2]; omega) | exact ⟨by simp only [List.length_cons, List.length_nil, List.length_append]; omega, Cn.rt_bytes1 hbm hBb⟩ | exact ⟨by simp only [List.length_cons, List.length_nil, List.length_append]; omega, Cn.rt_bytes2 hbm hBb⟩ | done
        refine fin_then ?_
        refine tri_ret ?_
        exact fin_ret [] rfl rfl trivial hcx (avs := [.bool ((((((Cn.getV (Cn.wordsV (rtT N L m))).2.2) == 0) && (((Cn.getV (Cn.wordsV (rtA N L m))).2.2) == 0)) && ((((Cn.getV (Cn.wordsV (rtT N L m))).1) == N) && decide (((Cn.getV (Cn.wordsV (rtT N L m))).2.1) = L))) && ((((Cn.getV (Cn.wordsV (rtA N L m))).1) == N) && decide (((Cn.getV (Cn.wordsV (rtA N L m))).2.1) = L)))]) (by kernel_rfl) (congrArg AV.bool (show ((((((Cn.getV (Cn.wordsV (rtT N L m))).2.2) == 0) && (((Cn.getV (Cn.wordsV (rtA N L m))).2.2) == 0)) && ((((Cn.getV (Cn.wordsV (rtT N L m))).1) == N) && decide (((Cn.getV (Cn.wordsV (rtT N L m))).2.1) = L))) && ((((Cn.getV (Cn.wordsV (rtA N L m))).1) == N) && decide (((Cn.getV (Cn.wordsV (rtA N L m))).2.1) = L))) = true from (by (rw [e1, e2]; simp)))) [] rfl
 ·
  cases hσ
end Go.Proofs.YtiokflebeojokaaGreatDoor.En
