/- Lemmas and contracts for the row. -/
import Derived.Test.YtbpbndlgfiammaaGreatDoorPkRowProofTidyT
import Derived.Test.YtbpbndlgfiammaaGreatDoorPkRowProofTidyAE
import Derived.Test.YtbpbndlgfiammaaGreatDoorPkRowProofTidyG
import Derived.Test.YtbpbndlgfiammaaGreatDoorPkRowProofTidyU
import Derived.Test.YtbpbndlgfiammaaGreatDoorPkRowProofTidyV
import Derived.Test.YtbpbndlgfiammaaGreatDoorPkRowProofTidyAB
import Derived.Test.YtbpbndlgfiammaaGreatDoorPkRowProofTidyW
set_option linter.unusedVariables false
set_option linter.unusedSimpArgs false
set_option linter.unnecessarySimpa false
namespace Go.Proofs.YtbpbndlgfiammaaGreatDoor.En
open Go Go.RowKit
def tyPrf : List (Nat × TD) := [(3, ⟨1, false, [.int .i64 0], [], none, 8, false, 1, 1⟩),
  (4, ⟨1, false, [.bool false], [], none, 1, true, 0, 2⟩),
  (22, ⟨1, false, [.slice none 0 0], [], some 23, 24, false, 0, 0⟩),
  (23, ⟨1, false, [.slice none 0 0], [], some 3, 24, false, 0, 3⟩),
  (28, ⟨2, true, [.int .i64 0, .slice none 0 0], [(0, 3), (1, 22)], none, 32, false, 0, 6⟩),
  (29, ⟨1, false, [.slice none 0 0], [], some 43, 24, false, 0, 0⟩),
  (31, ⟨1, false, [.int .i64 0], [], none, 8, false, 1, 1⟩),
  (43, ⟨2, true, [.int .i64 0, .slice none 0 0], [(0, 3), (1, 23)], none, 32, false, 0, 7⟩),
  (64, ⟨1, false, [.map none], [], none, 8, false, 10, 4⟩),
  (65, ⟨1, false, [.map none], [], none, 8, false, 10, 4⟩),
  (66, ⟨1, false, [.nilFunc], [], none, 8, false, 0, 0⟩),
  (73, ⟨1, false, [.nilFunc], [], none, 8, false, 0, 0⟩),
  (75, ⟨1, false, [.nilFunc], [], none, 8, false, 0, 0⟩),
  (78, ⟨1, false, [.map none], [], none, 8, false, 10, 75⟩),
  (79, ⟨1, false, [.nilFunc], [], none, 8, false, 0, 0⟩),
  (126, ⟨1, false, [.nilFunc], [], none, 8, false, 0, 0⟩)]
theorem tyPrf_ok : AllTy Tryz.prog tyPrf := ⟨⟨by kernel_rfl, by kernel_rfl, by kernel_rfl⟩, ⟨by kernel_rfl, by kernel_rfl, by kernel_rfl⟩, ⟨by kernel_rfl, by kernel_rfl, by kernel_rfl⟩, ⟨by kernel_rfl, by kernel_rfl, by kernel_rfl⟩, ⟨by kernel_rfl, by kernel_rfl, by kernel_rfl⟩, ⟨by kernel_rfl, by kernel_rfl, by kernel_rfl⟩, ⟨by kernel_rfl, by kernel_rfl, by kernel_rfl⟩, ⟨by kernel_rfl, by kernel_rfl, by kernel_rfl⟩, ⟨by kernel_rfl, by kernel_rfl, by kernel_rfl⟩, ⟨by kernel_rfl, by kernel_rfl, by kernel_rfl⟩, ⟨by kernel_rfl, by kernel_rfl, by kernel_rfl⟩, ⟨by kernel_rfl, by kernel_rfl, by kernel_rfl⟩, ⟨by kernel_rfl, by kernel_rfl, by kernel_rfl⟩, ⟨by kernel_rfl, by kernel_rfl, by kernel_rfl⟩, ⟨by kernel_rfl, by kernel_rfl, by kernel_rfl⟩, ⟨by kernel_rfl, by kernel_rfl, by kernel_rfl⟩, trivial⟩
def cx_pLit : Cx := ⟨tyPrf, [], true⟩
theorem cx_pLit_ok : CxOk Tryz.prog cx_pLit := cx_ok tyPrf_ok trivial
def pLit_σ : CtF
  | [.im (.val (.int .i64 x))], [] => some (True, .bool (Cn.mayP x 65536), [])
  | _, _ => none
theorem pLit_sound : Sound Tryz.prog 36 pLit_σ := by
 refine Sw (cx := cx_pLit) Tryz.f36 Tryz.func36 ?_
 intro wW wO wβ G0 args os p r outs hσ hp
 have hcx := cx_pLit_ok
 unfold pLit_σ at hσ
 split at hσ
 ·
  rename_i x
  cases hσ
  refine ⟨by kernel_rfl, ?_⟩
  refine Sz hcx [] [] [] [] (Sq hcx [] [2] [0] [] [((x != 0) = true → ((x != 0) = true)), ((x != 0) = true → (x != 0) = true), (((x != 0) && (decide ((-65536) ≤ x))) = true → (((x != 0) && (decide ((-65536) ≤ x))) = true)), (((x != 0) && (decide ((-65536) ≤ x))) = true → ((x != 0) && (decide ((-65536) ≤ x))) = true)] ?_ (Zr (Ru hcx [])))
  ·
   refine ap ?_ (ap (by exact id) (ap ?_ (ap (by exact id) az))) <;>
    first | omega | exact id | exact vcNot | exact vcG | exact vcH | (intro _; omega) | exact (fun _ h => h) | (intro h; simp at h; omega) | (simp only [List.length_cons, List.length_nil, List.length_append, List.length_map, List.length_set, List.length_replicate]; omega) | (intro h; simp [h]; done)
 ·
  cases hσ
def cx_pLook : Cx := ⟨tyPrf, [(36, pLit_σ)], true⟩
theorem cx_pLook_ok : CxOk Tryz.prog cx_pLook := cx_ok tyPrf_ok ⟨pLit_sound, trivial⟩
def pLook_σ : CtF
  | [.row 0, .im (.ls (.ints l))], [.mset ks] => some (l.length ≤ maxLen, .tup [.int ((Cn.lookV (Cn.hasK ks) l).1), .bool ((Cn.lookV (Cn.hasK ks) l).2)], [some (.mset ks)])
  | _, _ => none
theorem pLook_sound : Sound Tryz.prog 38 pLook_σ := by
 refine Sw (cx := cx_pLook) Tryz.f38 Tryz.func38 ?_
 intro wW wO wβ G0 args os p r outs hσ hp
 have hcx := cx_pLook_ok
 unfold pLook_σ at hσ
 split at hσ
 ·
  rename_i l ks
  cases hσ
  refine ⟨by kernel_rfl, ?_⟩
  have hm1 := hp
  unfold maxLen at hm1
  refine Sz hcx [] [4] [] [] (Sz hcx [(1000, .to 209)] [6] [] [] (Zs (Sz hcx [] [10, 11, 12] [1] [] (Zb (Zn [(0, .to 0), (209, .to 209)] [0, 4, 6, 10, 11, 12] (Lp (X := Nat) (fun x0 => x0 ≤ l.length ∧ Cn.noT (Cn.hasK ks) (l.take x0)) (fun x0 => ([(0, .row 0), (4, .int ((Cn.lkS (Cn.hasK ks) (l.take x0)).2)), (6, .row 209), (10, .ints l), (11, .int (l.length : Int)), (12, .int (x0 : Int))], [(0, .mset ks), (209, .mset ((Cn.lkS (Cn.hasK ks) (l.take x0)).1))])) (fun x0 => l.length - x0) (0) ?_ (Ex 12 (congrArg AV.int (show 0 = (0 : Int) from (by first | rfl | omega | (simp; done)))) Eb) Hb fun i hI => ?_))))))
  ·
   exact ⟨Nat.zero_le _, Cn.noT_0 _ _⟩
  ·
   try dsimp only at hI
   obtain ⟨hk, hno⟩ := hI
   have hol := Cn.lkS_len (Cn.hasK ks) l i
   refine Sz hcx [] [13] [] [] (Zs (Zj (p := ((i : Int) < (l.length : Int))) (fun h0 => ?_) fun h0 => ?_))
   ·
    refine Zk (Ft (Zs (Zb (Sq hcx [] [8] [13] [] [((0 : Int) ≤ (i : Int) ∧ (i : Int) < (l.length : Int))] ?_ (Zb (Sq hcx [] [19] [] [] [(True), ((!(!(Cn.mayP (l.getD i 0) 65536))) = true → ((!(!(Cn.mayP (l.getD i 0) 65536))) = true)), ((!(!(Cn.mayP (l.getD i 0) 65536))) = true → Fit (-(l.getD i 0))), ((!(!(Cn.mayP (l.getD i 0) 65536))) = true → ((!(!(Cn.mayP (l.getD i 0) 65536))) = true)), ((!(!(Cn.mayP (l.getD i 0) 65536))) = true → ((!(!(Cn.mayP (l.getD i 0) 65536))) = true)), ((!(Cn.mayP (l.getD i 0) 65536)) = false → (!(!(Cn.mayP (l.getD i 0) 65536))) = true)] ?_ (Zi (b := (!(Cn.mayP (l.getD i 0) 65536)) || (ks.contains (-(l.getD i 0)))) (fun h1 => ?_) fun h1 => ?_)))))))
    ·
     refine ap ?_ az
     first | omega | exact id | exact vcNot | exact vcG | exact vcH | (intro _; omega) | exact (fun _ h => h) | (intro h; simp at h; omega) | (simp only [List.length_cons, List.length_nil, List.length_append, List.length_map, List.length_set, List.length_replicate]; omega) | (intro h; simp [h]; done) | exact rfl | exact True.intro | exact Cn.mayN | (unfold maxLen; omega) | done
    ·
     refine ap ?_ (ap ?_ (ap ?_ (ap ?_ (ap ?_ (ap (by exact vcNot) az))))) <;>
      first | omega | exact id | exact vcNot | exact vcG | exact vcH | (intro _; omega) | exact (fun _ h => h) | (intro h; simp at h; omega) | (simp only [List.length_cons, List.length_nil, List.length_append, List.length_map, List.length_set, List.length_replicate]; omega) | (intro h; simp [h]; done) | exact rfl | exact True.intro | exact Cn.mayN | (unfold maxLen; omega) | done
    ·
     have hq : ((!(Cn.mayP (l.getD i 0) 65536)) || (Cn.hasK ks) (-(l.getD i 0))) = true := h1
     refine Zk (Fb (Fb (Ft (Tq hcx [] [12] [19, 8] [] [Fit ((i : Int) + 1)] ?_ (Lr (i + 1) ?_ ?_ (Ex 4 (congrArg AV.int (show (Cn.lkS (Cn.hasK ks) (l.take i)).2 = (Cn.lkS (Cn.hasK ks) (l.take (i + 1))).2 from (by first | (rw [Cn.lk_skip (by omega) hq]; done) | (rw [Cn.lk_add (by omega) hq]; done)))) (Ex 12 (congrArg AV.int (show ((i : Int) + 1) = ((i + 1) : Int) from (by first | rfl | omega | (simp; done)))) Eb)) (Hx 209 (congrArg AObj.mset (show (Cn.lkS (Cn.hasK ks) (l.take i)).1 = (Cn.lkS (Cn.hasK ks) (l.take (i + 1))).1 from (by first | (rw [Cn.lk_skip (by omega) hq]; done) | (rw [Cn.lk_add (by omega) hq]; done)))) Hb))))))
     ·
      refine ap ?_ az
      first | omega | exact id | exact vcNot | exact vcG | exact vcH | (intro _; omega) | exact (fun _ h => h) | (intro h; simp at h; omega) | (simp only [List.length_cons, List.length_nil, List.length_append, List.length_map, List.length_set, List.length_replicate]; omega) | (intro h; simp [h]; done) | exact rfl | exact True.intro | exact Cn.mayN | (unfold maxLen; omega) | done
     ·
      try dsimp only
      first | exact ⟨by omega, Cn.noT_skip (by omega) hq hno⟩ | exact ⟨by omega, Cn.noT_add (by omega) hu hno⟩
     ·
      show l.length - (i + 1) < l.length - i
      omega
    ·
     have hq : ((!(Cn.mayP (l.getD i 0) 65536)) || (Cn.hasK ks) (-(l.getD i 0))) = false := h1
     refine Sz hcx [] [29] [19, 4] [] (Zi (b := ks.contains (l.getD i 0)) (fun h2 => ?_) fun h2 => ?_)
     ·
      have hu : (Cn.hasK ks) (l.getD i 0) = true := h2
      have hlk := Cn.look_true (by omega) hq hu
      exact Sz hcx [] [4, 5] [29, 8, 0, 6, 10, 11, 12] [209] (Zr (Fk (Fk (Fr (Fr (Fk (Fr (Rv hcx (congrArg AV.tup (consE (congrArg AV.int (show 0 = (Cn.lookV (Cn.hasK ks) l).1 from (by (rw [hlk]; done)))) (consE (congrArg AV.bool (show false = (Cn.lookV (Cn.hasK ks) l).2 from (by (rw [hlk]; done)))) rfl))) [true] rfl))))))))
     ·
      have hu : (Cn.hasK ks) (l.getD i 0) = false := h2
      refine Tq hcx [(209, .to 209)] [4] [29, 8] [] [(true = true)] ?_ (Fb (Fb (Ft (Tq hcx [] [12] [] [] [Fit ((i : Int) + 1)] ?_ (Fn [(0, .to 0), (209, .to 209)] [0, 4, 6, 10, 11, 12] (Lr (i + 1) ?_ ?_ (Ex 4 (congrArg AV.int (show (l.getD i 0) = (Cn.lkS (Cn.hasK ks) (l.take (i + 1))).2 from (by first | (rw [Cn.lk_skip (by omega) hq]; done) | (rw [Cn.lk_add (by omega) hq]; done)))) (Ex 12 (congrArg AV.int (show ((i : Int) + 1) = ((i + 1) : Int) from (by first | rfl | omega | (simp; done)))) Eb)) (Hx 209 (congrArg AObj.mset (show (addK ((Cn.lkS (Cn.hasK ks) (l.take i)).1) (l.getD i 0)) = (Cn.lkS (Cn.hasK ks) (l.take (i + 1))).1 from (by first | (rw [Cn.lk_skip (by omega) hq]; done) | (rw [Cn.lk_add (by omega) hq]; done)))) Hb)))))))
      ·
       refine ap ?_ az
       first | omega | exact id | exact vcNot | exact vcG | exact vcH | (intro _; omega) | exact (fun _ h => h) | (intro h; simp at h; omega) | (simp only [List.length_cons, List.length_nil, List.length_append, List.length_map, List.length_set, List.length_replicate]; omega) | (intro h; simp [h]; done) | exact rfl | exact True.intro | exact Cn.mayN | (unfold maxLen; omega) | done
      ·
       refine ap ?_ az
       first | omega | exact id | exact vcNot | exact vcG | exact vcH | (intro _; omega) | exact (fun _ h => h) | (intro h; simp at h; omega) | (simp only [List.length_cons, List.length_nil, List.length_append, List.length_map, List.length_set, List.length_replicate]; omega) | (intro h; simp [h]; done) | exact rfl | exact True.intro | exact Cn.mayN | (unfold maxLen; omega) | done
      ·
       try dsimp only
       first | exact ⟨by omega, Cn.noT_skip (by omega) hq hno⟩ | exact ⟨by omega, Cn.noT_add (by omega) hu hno⟩
      ·
       show l.length - (i + 1) < l.length - i
       omega
   ·
    refine Ze (Fe (Fe (Fs (Ft (Zs (Sq hcx [] [35] [13, 0, 6, 10, 11, 12] [209] [(((Cn.lkS (Cn.hasK ks) (l.take i)).1).length ≤ maxLen)] ?_ (Zb (Sz hcx [] [36] [] [] (Zu (a := (((Cn.lkS (Cn.hasK ks) (l.take i)).1).length : Int)) (b := 0) (fun h3 => ?_) fun h3 => ?_)))))))))
    ·
     refine ap ?_ az
     first | omega | exact id | exact vcNot | exact vcG | exact vcH | (intro _; omega) | exact (fun _ h => h) | (intro h; simp at h; omega) | (simp only [List.length_cons, List.length_nil, List.length_append, List.length_map, List.length_set, List.length_replicate]; omega) | (intro h; simp [h]; done) | exact rfl | exact True.intro | exact Cn.mayN | (unfold maxLen; omega) | done
    ·
     have hlk := Cn.look_0 (by omega) hno h3
     exact Sz hcx [] [4, 5] [36, 35] [] (Zr (Fk (Fr (Rv hcx (congrArg AV.tup (consE (congrArg AV.int (show 0 = (Cn.lookV (Cn.hasK ks) l).1 from (by (rw [hlk]; done)))) (consE (congrArg AV.bool (show true = (Cn.lookV (Cn.hasK ks) l).2 from (by (rw [hlk]; done)))) rfl))) [true] rfl))))
    ·
     have h36 := h3
     refine Sz hcx [] [38] [36, 35] [] (Zu (a := (((Cn.lkS (Cn.hasK ks) (l.take i)).1).length : Int)) (b := 1) (fun h4 => ?_) fun h4 => ?_)
     ·
      have hlk := Cn.look_1 (by omega) hno h4
      exact Sz hcx [] [4, 5] [38] [] (Zr (Fk (Fr (Rv hcx (congrArg AV.tup (consE (congrArg AV.int (show (Cn.lkS (Cn.hasK ks) (l.take i)).2 = (Cn.lookV (Cn.hasK ks) l).1 from (by (rw [hlk]; done)))) (consE (congrArg AV.bool (show false = (Cn.lookV (Cn.hasK ks) l).2 from (by (rw [hlk]; done)))) rfl))) [true] rfl))))
     ·
      have hlk := Cn.look_2 (by omega) hno h36 h4
      exact Zk (Fb (Ft (Sz hcx [] [4, 5] [38] [] (Zr (Rv hcx (congrArg AV.tup (consE (congrArg AV.int (show 0 = (Cn.lookV (Cn.hasK ks) l).1 from (by (rw [hlk]; done)))) (consE (congrArg AV.bool (show false = (Cn.lookV (Cn.hasK ks) l).2 from (by (rw [hlk]; done)))) rfl))) [true] rfl)))))
 ·
  cases hσ
def cx_pFlw : Cx := ⟨tyPrf, [(36, pLit_σ), (38, (coeF [.id, .ld (.ints [])] pLook_σ)), (37, sCloneL), (39, sDelL)], true⟩
theorem cx_pFlw_ok : CxOk Tryz.prog cx_pFlw := cx_ok tyPrf_ok ⟨pLit_sound, (pLook_sound.coe [.id, .ld (.ints [])] rfl), sCloneL_sound, sDelL_sound, trivial⟩
def pFlw_σ : CtF
  | [.im (.ls (.intss c)), .im (.ls (.ints l))], [] => some (c.length ≤ 1000000000 ∧ (∀ x ∈ c, x.length ≤ maxLen) ∧ l.length ≤ maxLen, .bool (Cn.flwV c l), [])
  | _, _ => none
theorem pFlw_sound : Sound Tryz.prog 14 pFlw_σ := by
 refine Sw (cx := cx_pFlw) Tryz.f14 Tryz.func14 ?_
 intro wW wO wβ G0 args os p r outs hσ hp
 have hcx := cx_pFlw_ok
 unfold pFlw_σ at hσ
 split at hσ
 ·
  rename_i c l
  cases hσ
  refine ⟨by kernel_rfl, ?_⟩
  obtain ⟨hm1, hm2, hm3⟩ := hp
  have hm4 := hm3
  unfold maxLen at hm4
  refine Sz hcx [] [] [] [] ?_
  refine tri_jump (X := List (List Int) × List Int) 0 (fun x0 => Cn.contra l = false ∧ Cn.StepI c l x0.1 x0.2) (fun x0 => [(5, .row 213), (8, .row 231)]) (fun x0 => [(213, .mset x0.2), (231, .row 23 (.intss x0.1))]) (fun x0 => x0.1.length) rfl (fun hrest => ?_) ?_
  ·
   refine Sz hcx [(1000, .to 213)] [5] [] [] (Zs (Sz hcx [] [14, 15, 16] [1] [] (Zb (Lp (X := Nat) (fun x0 => x0 ≤ l.length ∧ Cn.contra (l.take x0) = false) (fun x0 => ([(0, .intss c), (5, .row 213), (14, .ints l), (15, .int (l.length : Int)), (16, .int (x0 : Int))], [(213, .mset (Cn.iniK (l.take x0)))])) (fun x0 => l.length - x0) (0) ?_ (Ex 16 (congrArg AV.int (show 0 = (0 : Int) from (by first | rfl | omega | (simp; done)))) Eb) Hb fun i hI => ?_))))
   ·
    exact ⟨Nat.zero_le _, rfl⟩
   ·
    try dsimp only at hI
    obtain ⟨hk, hno⟩ := hI
    refine Sz hcx [] [17] [] [] (Zs (Zj (p := ((i : Int) < (l.length : Int))) (fun h0 => ?_) fun h0 => ?_))
    ·
     refine Zk (Ft (Zs (Zb (Sq hcx [] [7] [17] [] [((0 : Int) ≤ (i : Int) ∧ (i : Int) < (l.length : Int))] ?_ (Zs (Sq hcx [] [22] [] [] [(True)] ?_ (Zi (b := !(Cn.mayP (l.getD i 0) 65536)) (fun h1 => ?_) fun h1 => ?_)))))))
     ·
      refine ap ?_ az
      first | omega | exact id | exact vcNot | exact vcG | exact vcH | (intro _; omega) | exact (fun _ h => h) | (intro h; simp at h; omega) | (simp only [List.length_cons, List.length_nil, List.length_append, List.length_map, List.length_set, List.length_replicate]; omega) | (intro h; simp [h]; done) | exact rfl | exact True.intro | (constructor <;> omega) | (unfold maxLen; omega) | exact hmm _ (Cn.getD_memL (by omega)) | exact ⟨by omega, by omega, by omega, by omega⟩ | done
     ·
      refine ap ?_ az
      first | omega | exact id | exact vcNot | exact vcG | exact vcH | (intro _; omega) | exact (fun _ h => h) | (intro h; simp at h; omega) | (simp only [List.length_cons, List.length_nil, List.length_append, List.length_map, List.length_set, List.length_replicate]; omega) | (intro h; simp [h]; done) | exact rfl | exact True.intro | (constructor <;> omega) | (unfold maxLen; omega) | exact hmm _ (Cn.getD_memL (by omega)) | exact ⟨by omega, by omega, by omega, by omega⟩ | done
     ·
      have hq : Cn.mayP (l.getD i 0) 65536 = false := Cn.ntT h1
      refine Ze (Fe (Fs (Ft (Tq hcx [] [16] [22, 7] [] [Fit ((i : Int) + 1)] ?_ (Lr (i + 1) ?_ ?_ (Ex 16 (congrArg AV.int (show ((i : Int) + 1) = ((i + 1) : Int) from (by first | rfl | omega | (simp; done)))) Eb) (Hx 213 (congrArg AObj.mset (show (Cn.iniK (l.take i)) = (Cn.iniK (l.take (i + 1))) from (by first | exact (Cn.ini_skip (by omega) hq).symm | exact (Cn.ini_add (by omega) hq).symm))) Hb))))))
      ·
       refine ap ?_ az
       first | omega | exact id | exact vcNot | exact vcG | exact vcH | (intro _; omega) | exact (fun _ h => h) | (intro h; simp at h; omega) | (simp only [List.length_cons, List.length_nil, List.length_append, List.length_map, List.length_set, List.length_replicate]; omega) | (intro h; simp [h]; done) | exact rfl | exact True.intro | (constructor <;> omega) | (unfold maxLen; omega) | exact hmm _ (Cn.getD_memL (by omega)) | exact ⟨by omega, by omega, by omega, by omega⟩ | done
      ·
       try dsimp only
       first | exact ⟨by omega, Cn.contra_skip (by omega) hq hno⟩ | exact ⟨by omega, Cn.contra_add (by omega) hq hu hno⟩
      ·
       show l.length - (i + 1) < l.length - i
       omega
     ·
      have hq : Cn.mayP (l.getD i 0) 65536 = true := Cn.ntF h1
      have hb := Cn.mayP_iff.1 hq
      refine Zk (Ft (Sq hcx [(213, .to 213)] [] [22] [] [Fit (-(l.getD i 0)), (true = true)] ?_ (Sz hcx [] [28] [7] [] (Zi (b := (addK (Cn.iniK (l.take i)) (-(l.getD i 0))).contains (l.getD i 0)) (fun h2 => ?_) fun h2 => ?_))))
      ·
       refine ap ?_ (ap ?_ az) <;>
        first | omega | exact id | exact vcNot | exact vcG | exact vcH | (intro _; omega) | exact (fun _ h => h) | (intro h; simp at h; omega) | (simp only [List.length_cons, List.length_nil, List.length_append, List.length_map, List.length_set, List.length_replicate]; omega) | (intro h; simp [h]; done) | exact rfl | exact True.intro | (constructor <;> omega) | (unfold maxLen; omega) | exact hmm _ (Cn.getD_memL (by omega)) | exact ⟨by omega, by omega, by omega, by omega⟩ | done
      ·
       have hf := Cn.flw_c (c := c) (Cn.contra_hit (by omega) hq h2)
       exact Sz hcx [] [4] [28, 0, 5, 14, 15, 16] [213] (Zr (Fk (Fr (Fr (Fk (Fr (fin_jumpQ_ret (Rv hcx (congrArg AV.bool (show true = (Cn.flwV c l) from (by first | exact hf.symm | exact (Cn.step_false hI hct (fun j hj => hok j (by omega))).symm))) [] rfl))))))))
      ·
       have hu := h2
       refine Zk (Fb (Ft (Tq hcx [] [16] [28] [] [Fit ((i : Int) + 1)] ?_ (Lr (i + 1) ?_ ?_ (Ex 16 (congrArg AV.int (show ((i : Int) + 1) = ((i + 1) : Int) from (by first | rfl | omega | (simp; done)))) Eb) (Hx 213 (congrArg AObj.mset (show (addK (Cn.iniK (l.take i)) (-(l.getD i 0))) = (Cn.iniK (l.take (i + 1))) from (by first | exact (Cn.ini_skip (by omega) hq).symm | exact (Cn.ini_add (by omega) hq).symm))) Hb)))))
       ·
        refine ap ?_ az
        first | omega | exact id | exact vcNot | exact vcG | exact vcH | (intro _; omega) | exact (fun _ h => h) | (intro h; simp at h; omega) | (simp only [List.length_cons, List.length_nil, List.length_append, List.length_map, List.length_set, List.length_replicate]; omega) | (intro h; simp [h]; done) | exact rfl | exact True.intro | (constructor <;> omega) | (unfold maxLen; omega) | exact hmm _ (Cn.getD_memL (by omega)) | exact ⟨by omega, by omega, by omega, by omega⟩ | done
       ·
        try dsimp only
        first | exact ⟨by omega, Cn.contra_skip (by omega) hq hno⟩ | exact ⟨by omega, Cn.contra_add (by omega) hq hu hno⟩
       ·
        show l.length - (i + 1) < l.length - i
        omega
    ·
     refine Ze (Fe (Fe (Fs (Ft (Sq hcx [(1001, .to 231)] [8] [17, 0, 14, 15, 16] [] [(c.length ≤ 1000000000000)] ?_ (Zn [(213, .to 213), (231, .to 231)] [5, 8] (tri_enter (c, (Cn.iniK (l.take i))) hrest ?_ Eb Hb)))))))
     ·
      refine ap ?_ az
      first | omega | exact id | exact vcNot | exact vcG | exact vcH | (intro _; omega) | exact (fun _ h => h) | (intro h; simp at h; omega) | (simp only [List.length_cons, List.length_nil, List.length_append, List.length_map, List.length_set, List.length_replicate]; omega) | (intro h; simp [h]; done) | exact rfl | exact True.intro | (constructor <;> omega) | (unfold maxLen; omega) | exact hmm _ (Cn.getD_memL (by omega)) | exact ⟨by omega, by omega, by omega, by omega⟩ | done
     ·
      try dsimp only
      (rw [show i = l.length by omega, List.take_length] at hno ⊢; exact ⟨hno, Cn.step_init hno⟩)
  ·
   intro ⟨lf, ks⟩ hI
   replace hI : Cn.contra l = false ∧ Cn.StepI c l lf ks := hI
   change Tri _ [(5, .row 213), (8, .row 231)] [(213, .mset ks), (231, .row 23 (.intss lf))] _ _
   obtain ⟨hct, hI⟩ := hI
   have hml := hI.1
   have hmm := fun x hx => hm2 x (hI.2.1 x hx)
   refine Zt (Zs (Sz hcx [] [32, 33, 34] [] [] (Zb (Lp (X := Nat) (fun x0 => x0 ≤ lf.length ∧ ∀ j, j < x0 → Cn.lookV (Cn.hasK ks) (lf.getD j []) = (0, false)) (fun x0 => ([(5, .row 213), (8, .row 231), (32, .row 231), (33, .int (lf.length : Int)), (34, .int (x0 : Int))], [(213, .mset ks), (231, .row 23 (.intss lf))])) (fun x0 => lf.length - x0) (0) ?_ (Ex 34 (congrArg AV.int (show 0 = (0 : Int) from (by first | rfl | omega | (simp; done)))) Eb) Hb fun i hI => ?_))))
   ·
    exact ⟨Nat.zero_le _, fun j hj => by omega⟩
   ·
    try dsimp only at hI
    obtain ⟨hk, hok⟩ := hI
    refine Sz hcx [] [35] [] [] (Zs (Zj (p := ((i : Int) < (lf.length : Int))) (fun h3 => ?_) fun h3 => ?_))
    ·
     refine Zk (Ft (Zs (Zb (Sq hcx [] [9, 10] [35] [] [((0 : Int) ≤ (i : Int) ∧ (i : Int) < (lf.length : Int)), (i < lf.length)] ?_ (Sq hcx [(213, .to 213)] [11, 12] [10] [] [((lf.getD i []).length ≤ maxLen)] ?_ (Zb (Sz hcx [] [45] [12] [] (Zi (b := (Cn.lookV (Cn.hasK ks) (lf.getD i [])).2) (fun h4 => ?_) fun h4 => ?_))))))))
     ·
      refine ap ?_ (ap ?_ az) <;>
       first | omega | exact id | exact vcNot | exact vcG | exact vcH | (intro _; omega) | exact (fun _ h => h) | (intro h; simp at h; omega) | (simp only [List.length_cons, List.length_nil, List.length_append, List.length_map, List.length_set, List.length_replicate]; omega) | (intro h; simp [h]; done) | exact rfl | exact True.intro | (constructor <;> omega) | (unfold maxLen; omega) | exact hmm _ (Cn.getD_memL (by omega)) | exact ⟨by omega, by omega, by omega, by omega⟩ | done
     ·
      refine ap ?_ az
      first | omega | exact id | exact vcNot | exact vcG | exact vcH | (intro _; omega) | exact (fun _ h => h) | (intro h; simp at h; omega) | (simp only [List.length_cons, List.length_nil, List.length_append, List.length_map, List.length_set, List.length_replicate]; omega) | (intro h; simp [h]; done) | exact rfl | exact True.intro | (constructor <;> omega) | (unfold maxLen; omega) | exact hmm _ (Cn.getD_memL (by omega)) | exact ⟨by omega, by omega, by omega, by omega⟩ | done
     ·
      have hf := Cn.step_true hI (by omega) h4
      exact Sz hcx [] [4] [45, 11, 9, 5, 8, 32, 33, 34] [213, 231] (Zr (Fk (Fk (Fr (Fr (Fk (Fr (fin_jumpB_ret (Rv hcx (congrArg AV.bool (show true = (Cn.flwV c l) from (by first | exact hf.symm | exact (Cn.step_false hI hct (fun j hj => hok j (by omega))).symm))) [] rfl)))))))))
     ·
      have hq := h4
      refine Sz hcx [] [47] [45] [] (Zx (a := ((Cn.lookV (Cn.hasK ks) (lf.getD i [])).1)) (b := 0) (fun h5 => ?_) fun h5 => ?_)
      ·
       have hz := h5
       refine Sq hcx [(213, .to 213)] [] [47, 11, 32, 33, 34] [] [(true = true)] ?_ (Sq hcx [(1004, .to 231)] [8] [9] [231] [Fit ((i : Int) + 1), (0 ≤ (i : Int) ∧ (i : Int) < ((i : Int) + 1) ∧ ((i : Int) + 1) ≤ lf.length ∧ lf.length ≤ 1000000000000)] ?_ (tri_goto (fin_block_goto (fin_block_goto (fin_then_goto (fin_then_goto (fin_block_goto (fin_then_goto (Fn [(213, .to 213), (231, .to 231)] [5, 8] (fin_jump ((lf.take i ++ lf.drop (i + 1)), (addK ks (Cn.lookV (Cn.hasK ks) (lf.getD i [])).1)) ?_ ?_ Eb (Hx 213 (congrArg AObj.mset (show (addK ks ((Cn.lookV (Cn.hasK ks) (lf.getD i [])).1)) = (addK ks (Cn.lookV (Cn.hasK ks) (lf.getD i [])).1) from (by first | rfl | (simp; done)))) (Hx 231 (congrArg (fun x => AObj.row 23 (.intss x)) (show (lf.take (i : Int).toNat ++ lf.drop ((i : Int) + 1).toNat) = (lf.take i ++ lf.drop (i + 1)) from (by first | rfl | (congr 2)))) Hb))))))))))))
       ·
        refine ap ?_ az
        first | omega | exact id | exact vcNot | exact vcG | exact vcH | (intro _; omega) | exact (fun _ h => h) | (intro h; simp at h; omega) | (simp only [List.length_cons, List.length_nil, List.length_append, List.length_map, List.length_set, List.length_replicate]; omega) | (intro h; simp [h]; done) | exact rfl | exact True.intro | (constructor <;> omega) | (unfold maxLen; omega) | exact hmm _ (Cn.getD_memL (by omega)) | exact ⟨by omega, by omega, by omega, by omega⟩ | done
       ·
        refine ap ?_ (ap ?_ az) <;>
         first | omega | exact id | exact vcNot | exact vcG | exact vcH | (intro _; omega) | exact (fun _ h => h) | (intro h; simp at h; omega) | (simp only [List.length_cons, List.length_nil, List.length_append, List.length_map, List.length_set, List.length_replicate]; omega) | (intro h; simp [h]; done) | exact rfl | exact True.intro | (constructor <;> omega) | (unfold maxLen; omega) | exact hmm _ (Cn.getD_memL (by omega)) | exact ⟨by omega, by omega, by omega, by omega⟩ | done
       ·
        try dsimp only
        exact ⟨hct, Cn.step_next hI (by omega) hz⟩
       ·
        try dsimp only
        (simp only [List.length_append, List.length_take, List.length_drop]; omega)
      ·
       have hz := h5
       refine Zk (Fb (Fb (Ft (Tq hcx [] [34] [47, 11, 9] [] [Fit ((i : Int) + 1)] ?_ (Lr (i + 1) ?_ ?_ (Ex 34 (congrArg AV.int (show ((i : Int) + 1) = ((i + 1) : Int) from (by first | rfl | omega | (simp; done)))) Eb) Hb)))))
       ·
        refine ap ?_ az
        first | omega | exact id | exact vcNot | exact vcG | exact vcH | (intro _; omega) | exact (fun _ h => h) | (intro h; simp at h; omega) | (simp only [List.length_cons, List.length_nil, List.length_append, List.length_map, List.length_set, List.length_replicate]; omega) | (intro h; simp [h]; done) | exact rfl | exact True.intro | (constructor <;> omega) | (unfold maxLen; omega) | exact hmm _ (Cn.getD_memL (by omega)) | exact ⟨by omega, by omega, by omega, by omega⟩ | done
       ·
        exact ⟨by omega, Cn.look_next hok hq hz⟩
       ·
        show lf.length - (i + 1) < lf.length - i
        omega
    ·
     exact Ze (Fe (Fe (Fs (Ft (Sz hcx [] [4] [35, 5, 8, 32, 33, 34] [213, 231] (Zr (fin_jumpB_ret (Rv hcx (congrArg AV.bool (show false = (Cn.flwV c l) from (by first | exact hf.symm | exact (Cn.step_false hI hct (fun j hj => hok j (by omega))).symm))) [] rfl))))))))
 ·
  cases hσ
def cx_pRt1 : Cx := ⟨tyPrf, [(36, pLit_σ)], true⟩
theorem cx_pRt1_ok : CxOk Tryz.prog cx_pRt1 := cx_ok tyPrf_ok ⟨pLit_sound, trivial⟩
def pRt1_σ : CtF
  | [.im (.val (.int .i64 x))], [] => some (True, .bool (!(Cn.mayP x 65536)), [])
  | _, _ => none
theorem pRt1_sound : Sound Tryz.prog 107 pRt1_σ := by
 refine Sw (cx := cx_pRt1) Tryz.f107 Tryz.func107 ?_
 intro wW wO wβ G0 args os p r outs hσ hp
 have hcx := cx_pRt1_ok
 unfold pRt1_σ at hσ
 split at hσ
 ·
  rename_i x
  cases hσ
  refine ⟨by kernel_rfl, ?_⟩
  exact Sz hcx [] [] [] [] (Sq hcx [] [2] [0] [] [(True)] (ap (by exact True.intro) az) (Zr (Ru hcx [])))
 ·
  cases hσ
def cx_ixRt : Cx := ⟨tyPrf, [(107, pRt1_σ)], true⟩
theorem cx_ixRt_ok : CxOk Tryz.prog cx_ixRt := cx_ok tyPrf_ok ⟨pRt1_sound, trivial⟩
def ixRt_σ : CtF
  | [.im (.ls (.ints s)), .clo 107 []], [] => some (s.length ≤ maxLen ∧ True, .int (Cn.idxF (fun x => !(Cn.mayP x 65536)) s), [])
  | _, _ => none
theorem ixRt_sound : Sound Tryz.prog 92 ixRt_σ := by
 refine Sw (cx := cx_ixRt) Tryz.f92 Tryz.func92 ?_
 intro wW wO wβ G0 args os p r outs hσ hp
 have hcx := cx_ixRt_ok
 unfold ixRt_σ at hσ
 split at hσ
 ·
  rename_i s
  cases hσ
  refine ⟨by kernel_rfl, ?_⟩
  obtain ⟨hm1, hpr⟩ := hp
  unfold maxLen at hm1
  refine Sz hcx [] [] [] [] (Zs (Sz hcx [] [7, 8] [] [] (Zb (Lp (X := Nat) (fun x0 => x0 ≤ s.length ∧ ∀ j, j < x0 → ((fun x => !(Cn.mayP x 65536)) (s.getD j 0)) = false) (fun x0 => ([(0, .ints s), (1, .clo 107 []), (7, .int (s.length : Int)), (8, .int (x0 : Int))], [])) (fun x0 => s.length - x0) (0) ?_ (Ex 8 (congrArg AV.int (show 0 = (0 : Int) from (by first | rfl | omega | (simp; done)))) Eb) Hb fun k hI => ?_))))
  ·
   exact ⟨Nat.zero_le _, fun j hj => by omega⟩
  ·
   try dsimp only at hI
   obtain ⟨hk, hok⟩ := hI
   refine Sz hcx [] [9] [] [] (Zs (Zj (p := ((k : Int) < (s.length : Int))) (fun h0 => ?_) fun h0 => ?_))
   ·
    refine Zk (Ft (Zs (Zb (Sz hcx [] [5] [9] [] (Sq hcx [] [16] [] [] [((0 : Int) ≤ (k : Int) ∧ (k : Int) < (s.length : Int)), (True)] ?_ (Zi (b := !(Cn.mayP (s.getD k 0) 65536)) (fun h1 => ?_) fun h1 => ?_))))))
    ·
     refine ap ?_ (ap ?_ az) <;>
      first | omega | exact id | exact vcNot | exact vcG | exact vcH | (intro _; omega) | exact (fun _ h => h) | (intro h; simp at h; omega) | (simp only [List.length_cons, List.length_nil, List.length_append, List.length_map, List.length_set, List.length_replicate]; omega) | (intro h; simp [h]; done) | exact True.intro | done
    ·
     have hq : ((fun x => !(Cn.mayP x 65536)) (s.getD k 0)) = true := h1
     exact Sz hcx [] [4] [16, 5, 0, 1, 7, 8] [] (Zr (Fk (Fr (Fr (Fk (Fr (Rv hcx (congrArg AV.int (show (k : Int) = (Cn.idxF (fun x => !(Cn.mayP x 65536)) s) from (by exact (Cn.idxF_yes (p := (fun x => !(Cn.mayP x 65536))) (by omega) hok hq).symm))) [] rfl)))))))
    ·
     have hq : ((fun x => !(Cn.mayP x 65536)) (s.getD k 0)) = false := h1
     refine Zk (Fb (Ft (Tq hcx [] [8] [16, 5] [] [Fit ((k : Int) + 1)] ?_ (Lr (k + 1) ?_ ?_ (Ex 8 (congrArg AV.int (show ((k : Int) + 1) = ((k + 1) : Int) from (by first | rfl | omega | (simp; done)))) Eb) Hb))))
     ·
      refine ap ?_ az
      first | omega | exact id | exact vcNot | exact vcG | exact vcH | (intro _; omega) | exact (fun _ h => h) | (intro h; simp at h; omega) | (simp only [List.length_cons, List.length_nil, List.length_append, List.length_map, List.length_set, List.length_replicate]; omega) | (intro h; simp [h]; done) | exact True.intro | done
     ·
      exact ⟨by omega, Cn.falseSucc hok hq⟩
     ·
      show s.length - (k + 1) < s.length - k
      omega
   ·
    exact Ze (Fe (Fe (Fs (Ft (Sz hcx [] [4] [9, 0, 1, 7, 8] [] (Zr (Rv hcx (congrArg AV.int (show (-1) = (Cn.idxF (fun x => !(Cn.mayP x 65536)) s) from (by exact (Cn.idxF_no (p := (fun x => !(Cn.mayP x 65536))) (Cn.all_mem (d := 0) (fun j hj => hok j (by omega)))).symm))) [] rfl)))))))
 ·
  cases hσ
def cx_ctRt : Cx := ⟨tyPrf, [(92, (coeF [.ld (.ints []), .id] ixRt_σ))], true⟩
theorem cx_ctRt_ok : CxOk Tryz.prog cx_ctRt := cx_ok tyPrf_ok ⟨(ixRt_sound.coe [.ld (.ints []), .id] rfl), trivial⟩
def ctRt_σ : CtF
  | [.im (.ls (.ints s)), .clo 107 []], [] => some (s.length ≤ maxLen ∧ True, .bool (s.any (fun x => !(Cn.mayP x 65536))), [])
  | _, _ => none
theorem ctRt_sound : Sound Tryz.prog 61 ctRt_σ := by
 refine Sw (cx := cx_ctRt) Tryz.f61 Tryz.func61 ?_
 intro wW wO wβ G0 args os p r outs hσ hp
 have hcx := cx_ctRt_ok
 unfold ctRt_σ at hσ
 split at hσ
 ·
  rename_i s
  cases hσ
  refine ⟨by kernel_rfl, ?_⟩
  refine Sz hcx [] [] [] [] (Sq hcx [] [4] [0, 1] [] [(s.length ≤ maxLen ∧ True)] ?_ (Zr (Rv hcx (congrArg AV.bool (show (decide ((Cn.idxF (fun x => !(Cn.mayP x 65536)) s) ≥ 0)) = (s.any (fun x => !(Cn.mayP x 65536))) from (by exact Cn.idxF_any (p := (fun x => !(Cn.mayP x 65536))) s))) [] rfl)))
  ·
   refine ap ?_ az
   first | exact hp | (intro h; exact h) | omega
 ·
  cases hσ
def cx_pRight : Cx := ⟨tyPrf, [(61, (coeF [.ld (.ints []), .id] ctRt_σ))], true⟩
theorem cx_pRight_ok : CxOk Tryz.prog cx_pRight := cx_ok tyPrf_ok ⟨(ctRt_sound.coe [.ld (.ints []), .id] rfl), trivial⟩
def pRight_σ : CtF
  | [.agg [.im (.val (.int .i64 k)), .im (.ls (.ints l))]], [] => some (l.length ≤ maxLen, .bool (Cn.lineOk (k, l)), [])
  | _, _ => none
theorem pRight_sound : Sound Tryz.prog 77 pRight_σ := by
 refine Sw (cx := cx_pRight) Tryz.f77 Tryz.func77 ?_
 intro wW wO wβ G0 args os p r outs hσ hp
 have hcx := cx_pRight_ok
 unfold pRight_σ at hσ
 split at hσ
 ·
  rename_i k l
  cases hσ
  refine ⟨by kernel_rfl, ?_⟩
  refine Sz hcx [(1000, .frz)] [1] [0] [] (Sz hcx [] [3] [] [] (Sq hcx [] [2] [3, 1] [] [((decide (k ≥ 1)) = true → ((decide (k ≥ 1)) = true)), ((decide (k ≥ 1)) = true → ((decide (k ≥ 1)) = true)), ((decide (k ≥ 1)) = true → (decide (k ≥ 1)) = true), (((decide (k ≥ 1)) && (decide (k ≤ 3))) = true → (((decide (k ≥ 1)) && (decide (k ≤ 3))) = true)), (((decide (k ≥ 1)) && (decide (k ≤ 3))) = true → (((decide (k ≥ 1)) && (decide (k ≤ 3))) = true)), (((decide (k ≥ 1)) && (decide (k ≤ 3))) = true → (((decide (k ≥ 1)) && (decide (k ≤ 3))) = true)), (((decide (k ≥ 1)) && (decide (k ≤ 3))) = true → (l.length ≤ maxLen ∧ True)), (((decide (k ≥ 1)) && (decide (k ≤ 3))) = true → (((decide (k ≥ 1)) && (decide (k ≤ 3))) = true)), (((decide (k ≥ 1)) && (decide (k ≤ 3))) = true → ((decide (k ≥ 1)) && (decide (k ≤ 3))) = true)] ?_ (Zr (Rv hcx (congrArg AV.bool (show (((decide (k ≥ 1)) && (decide (k ≤ 3))) && (!(l.any (fun x => !(Cn.mayP x 65536))))) = (Cn.lineOk (k, l)) from (by exact Cn.right_is k l))) [] rfl))))
  ·
   refine ap ?_ (ap ?_ (ap (by exact id) (ap ?_ (ap ?_ (ap ?_ (ap ?_ (ap ?_ (ap (by exact id) az)))))))) <;>
    first | exact (fun _ => ⟨hp, True.intro⟩) | exact id | (intro h; exact h) | omega | exact id | exact vcNot | exact vcG | exact vcH | (intro _; omega) | exact (fun _ h => h) | (intro h; simp at h; omega) | (simp only [List.length_cons, List.length_nil, List.length_append, List.length_map, List.length_set, List.length_replicate]; omega) | (intro h; simp [h]; done)
 ·
  cases hσ
def cx_pFm1 : Cx := ⟨tyPrf, [(77, (coeF [.agg [.id, .ld (.ints [])]] pRight_σ))], true⟩
theorem cx_pFm1_ok : CxOk Tryz.prog cx_pFm1 := cx_ok tyPrf_ok ⟨(pRight_sound.coe [.agg [.id, .ld (.ints [])]] rfl), trivial⟩
def pFm1_σ : CtF
  | [.agg [.im (.val (.int .i64 k)), .im (.ls (.ints l))]], [] => some (l.length ≤ maxLen, .bool (!(Cn.lineOk (k, l))), [])
  | _, _ => none
theorem pFm1_sound : Sound Tryz.prog 76 pFm1_σ := by
 refine Sw (cx := cx_pFm1) Tryz.f76 Tryz.func76 ?_
 intro wW wO wβ G0 args os p r outs hσ hp
 have hcx := cx_pFm1_ok
 unfold pFm1_σ at hσ
 split at hσ
 ·
  rename_i k l
  cases hσ
  refine ⟨by kernel_rfl, ?_⟩
  exact Sz hcx [(1000, .frz)] [1] [0] [] (Sq hcx [] [2] [1] [] [(l.length ≤ maxLen)] (ap (by exact hp) az) (Zr (Ru hcx [])))
 ·
  cases hσ
def cx_ixFm : Cx := ⟨tyPrf, [(76, (coeF [.agg [.id, .ld (.ints [])]] pFm1_σ))], true⟩
theorem cx_ixFm_ok : CxOk Tryz.prog cx_ixFm := cx_ok tyPrf_ok ⟨(pFm1_sound.coe [.agg [.id, .ld (.ints [])]] rfl), trivial⟩
def ixFm_σ : CtF
  | [.im (.ls (.lines s)), .clo 76 []], [] => some (s.length ≤ maxLen ∧ ∀ x ∈ s, x.2.length ≤ maxLen, .int (Cn.idxF (fun x => !(Cn.lineOk x)) s), [])
  | _, _ => none
theorem ixFm_sound : Sound Tryz.prog 106 ixFm_σ := by
 refine Sw (cx := cx_ixFm) Tryz.f106 Tryz.func106 ?_
 intro wW wO wβ G0 args os p r outs hσ hp
 have hcx := cx_ixFm_ok
 unfold ixFm_σ at hσ
 split at hσ
 ·
  rename_i s
  cases hσ
  refine ⟨by kernel_rfl, ?_⟩
  obtain ⟨hm1, hpr⟩ := hp
  unfold maxLen at hm1
  refine Sz hcx [] [] [] [] (Zs (Sz hcx [] [7, 8] [] [] (Zb (Lp (X := Nat) (fun x0 => x0 ≤ s.length ∧ ∀ j, j < x0 → ((fun x => !(Cn.lineOk x)) (s.getD j (0, []))) = false) (fun x0 => ([(0, .lines s), (1, .clo 76 []), (7, .int (s.length : Int)), (8, .int (x0 : Int))], [])) (fun x0 => s.length - x0) (0) ?_ (Ex 8 (congrArg AV.int (show 0 = (0 : Int) from (by first | rfl | omega | (simp; done)))) Eb) Hb fun k hI => ?_))))
  ·
   exact ⟨Nat.zero_le _, fun j hj => by omega⟩
  ·
   try dsimp only at hI
   obtain ⟨hk, hok⟩ := hI
   refine Sz hcx [] [9] [] [] (Zs (Zj (p := ((k : Int) < (s.length : Int))) (fun h0 => ?_) fun h0 => ?_))
   ·
    refine Zk (Ft (Zs (Zb (Sz hcx [] [5] [9] [] (Sq hcx [] [16] [] [] [((0 : Int) ≤ (k : Int) ∧ (k : Int) < (s.length : Int)), (((s.getD k (0, [])).2).length ≤ maxLen)] ?_ (Zi (b := !(Cn.lineOk (((s.getD k (0, [])).1), ((s.getD k (0, [])).2)))) (fun h1 => ?_) fun h1 => ?_))))))
    ·
     refine ap ?_ (ap ?_ az) <;>
      first | omega | exact id | exact vcNot | exact vcG | exact vcH | (intro _; omega) | exact (fun _ h => h) | (intro h; simp at h; omega) | (simp only [List.length_cons, List.length_nil, List.length_append, List.length_map, List.length_set, List.length_replicate]; omega) | (intro h; simp [h]; done) | exact hpr _ (Cn.getD_memL (by omega)) | exact True.intro | done
    ·
     have hq : ((fun x => !(Cn.lineOk x)) (s.getD k (0, []))) = true := h1
     exact Sz hcx [] [4] [16, 5, 0, 1, 7, 8] [] (Zr (Fk (Fr (Fr (Fk (Fr (Rv hcx (congrArg AV.int (show (k : Int) = (Cn.idxF (fun x => !(Cn.lineOk x)) s) from (by exact (Cn.idxF_yes (p := (fun x => !(Cn.lineOk x))) (by omega) hok hq).symm))) [] rfl)))))))
    ·
     have hq : ((fun x => !(Cn.lineOk x)) (s.getD k (0, []))) = false := h1
     refine Zk (Fb (Ft (Tq hcx [] [8] [16, 5] [] [Fit ((k : Int) + 1)] ?_ (Lr (k + 1) ?_ ?_ (Ex 8 (congrArg AV.int (show ((k : Int) + 1) = ((k + 1) : Int) from (by first | rfl | omega | (simp; done)))) Eb) Hb))))
     ·
      refine ap ?_ az
      first | omega | exact id | exact vcNot | exact vcG | exact vcH | (intro _; omega) | exact (fun _ h => h) | (intro h; simp at h; omega) | (simp only [List.length_cons, List.length_nil, List.length_append, List.length_map, List.length_set, List.length_replicate]; omega) | (intro h; simp [h]; done) | exact hpr _ (Cn.getD_memL (by omega)) | exact True.intro | done
     ·
      exact ⟨by omega, Cn.falseSucc hok hq⟩
     ·
      show s.length - (k + 1) < s.length - k
      omega
   ·
    exact Ze (Fe (Fe (Fs (Ft (Sz hcx [] [4] [9, 0, 1, 7, 8] [] (Zr (Rv hcx (congrArg AV.int (show (-1) = (Cn.idxF (fun x => !(Cn.lineOk x)) s) from (by exact (Cn.idxF_no (p := (fun x => !(Cn.lineOk x))) (Cn.all_mem (d := (0, [])) (fun j hj => hok j (by omega)))).symm))) [] rfl)))))))
 ·
  cases hσ
def cx_ctFm : Cx := ⟨tyPrf, [(106, (coeF [.ld (.lines []), .id] ixFm_σ))], true⟩
theorem cx_ctFm_ok : CxOk Tryz.prog cx_ctFm := cx_ok tyPrf_ok ⟨(ixFm_sound.coe [.ld (.lines []), .id] rfl), trivial⟩
def ctFm_σ : CtF
  | [.im (.ls (.lines s)), .clo 76 []], [] => some (s.length ≤ maxLen ∧ ∀ x ∈ s, x.2.length ≤ maxLen, .bool (s.any (fun x => !(Cn.lineOk x))), [])
  | _, _ => none
theorem ctFm_sound : Sound Tryz.prog 75 ctFm_σ := by
 refine Sw (cx := cx_ctFm) Tryz.f75 Tryz.func75 ?_
 intro wW wO wβ G0 args os p r outs hσ hp
 have hcx := cx_ctFm_ok
 unfold ctFm_σ at hσ
 split at hσ
 ·
  rename_i s
  cases hσ
  refine ⟨by kernel_rfl, ?_⟩
  refine Sz hcx [] [] [] [] (Sq hcx [] [4] [0, 1] [] [(s.length ≤ maxLen ∧ ∀ x ∈ s, x.2.length ≤ maxLen)] ?_ (Zr (Rv hcx (congrArg AV.bool (show (decide ((Cn.idxF (fun x => !(Cn.lineOk x)) s) ≥ 0)) = (s.any (fun x => !(Cn.lineOk x))) from (by exact Cn.idxF_any (p := (fun x => !(Cn.lineOk x))) s))) [] rfl)))
  ·
   refine ap ?_ az
   first | exact hp | (intro h; exact h) | omega
 ·
  cases hσ
def cx_pFormed : Cx := ⟨tyPrf, [(75, (coeF [.ld (.lines []), .id] ctFm_σ))], true⟩
theorem cx_pFormed_ok : CxOk Tryz.prog cx_pFormed := cx_ok tyPrf_ok ⟨(ctFm_sound.coe [.ld (.lines []), .id] rfl), trivial⟩
def pFormed_σ : CtF
  | [.im (.ls (.lines p))], [] => some (p.length ≤ maxLen ∧ ∀ x ∈ p, x.2.length ≤ maxLen, .int (Cn.frmV p), [])
  | _, _ => none
theorem pFormed_sound : Sound Tryz.prog 43 pFormed_σ := by
 refine Sw (cx := cx_pFormed) Tryz.f43 Tryz.func43 ?_
 intro wW wO wβ G0 args os p r outs hσ hp
 have hcx := cx_pFormed_ok
 unfold pFormed_σ at hσ
 split at hσ
 ·
  rename_i p
  cases hσ
  refine ⟨by kernel_rfl, ?_⟩
  refine Sz hcx [] [] [] [] (Zs (Sz hcx [] [5] [] [] (Zj (p := ((p.length : Int) > 65536)) (fun h0 => ?_) fun h0 => ?_)))
  ·
   exact Sz hcx [] [2] [5, 0] [] (Zr (Fr (Rv hcx (congrArg AV.int (show 2 = (Cn.frmV p) from (by exact (Cn.frm_2 h0).symm))) [] rfl)))
  ·
   refine Zk (Ft (Zs (Sq hcx [] [7] [5, 0] [] [(p.length ≤ maxLen ∧ ∀ x ∈ p, x.2.length ≤ maxLen)] ?_ (Zi (b := p.any (fun x => !(Cn.lineOk x))) (fun h1 => ?_) fun h1 => ?_))))
   ·
    refine ap ?_ az
    first | exact hp | omega | exact id | exact vcNot | exact vcG | exact vcH | (intro _; omega) | exact (fun _ h => h) | (intro h; simp at h; omega) | (simp only [List.length_cons, List.length_nil, List.length_append, List.length_map, List.length_set, List.length_replicate]; omega) | (intro h; simp [h]; done)
   ·
    have hq := h1
    exact Sz hcx [] [2] [7] [] (Zr (Fr (Rv hcx (congrArg AV.int (show 1 = (Cn.frmV p) from (by exact (Cn.frm_1 h0 hq).symm))) [] rfl)))
   ·
    have hq := h1
    exact Zk (Ft (Sz hcx [] [2] [7] [] (Zr (Rv hcx (congrArg AV.int (show 0 = (Cn.frmV p) from (by exact (Cn.frm_0 h0 hq).symm))) [] rfl))))
 ·
  cases hσ
def cx_sValues : Cx := ⟨tyPrf, [], true⟩
theorem cx_sValues_ok : CxOk Tryz.prog cx_sValues := cx_ok tyPrf_ok trivial
def sValues_σ : CtF
  | [.im (.ls (.ints l))], [] => some (True, .clo 130 [.pto [.ls (.ints l)]], [])
  | _, _ => none
theorem sValues_sound : Sound Tryz.prog 109 sValues_σ := by
 refine Sw (cx := cx_sValues) Tryz.f109 Tryz.func109 ?_
 intro wW wO wβ G0 args os p r outs hσ hp
 have hcx := cx_sValues_ok
 unfold sValues_σ at hσ
 split at hσ
 ·
  rename_i l
  cases hσ
  refine ⟨by kernel_rfl, ?_⟩
  exact Sz hcx [(1000, .frz)] [1] [0] [] (Sz hcx [] [2] [1] [] (Zr (Ru hcx [])))
 ·
  cases hσ
def cx_sAppSeq : Cx := ⟨tyPrf, [], true⟩
theorem cx_sAppSeq_ok : CxOk Tryz.prog cx_sAppSeq := cx_ok tyPrf_ok trivial
def sAppSeq_σ : CtF
  | [.im (.val (.slice none 0 0)), .clo 130 [.pto [.ls (.ints l)]]], [] => some (l.length ≤ 1000000000000, .row 0, [some (.row 3 (.ints l))])
  | _, _ => none
theorem sAppSeq_sound : Sound Tryz.prog 158 sAppSeq_σ := by
 refine Sw (cx := cx_sAppSeq) Tryz.f158 Tryz.func158 ?_
 intro wW wO wβ G0 args os p r outs hσ hp
 have hcx := cx_sAppSeq_ok
 unfold sAppSeq_σ at hσ
 split at hσ
 ·
  rename_i l
  cases hσ
  refine ⟨by kernel_rfl, ?_⟩
  have hm1 := hp
  refine Sz hcx [(1000, .to 602)] [2, 4] [0] [] (Zs (Zs (Zv 602 0 10 3 (.ints []) (Tz hcx [] [6] [1] [] (Ft (Zb ?_))))))
  refine tri_ren (ρ := [(602, .to 0), (10, .to 10)]) (keys := [6, 2, 4]) (E' := [(6, .clo 130 [.pto [.ls (.ints l)]]), (2, .loc 0 0), (4, .im (.val (.slice none 0 0)))]) (H' := [(0, .box [.row 10]), (10, .row 3 (.ints []))]) (by kernel_rfl) ?_
  refine tri_range (X := Unit) rfl values_seq (caps := [.pto [.ls (.ints l)]]) (by kernel_rfl) (N := l.length) (el := fun i => [.int (l.getD i 0)]) rfl (by kernel_rfl) ?_ 1 970 989 (by kernel_rfl) (fun i x0 => True) (fun i x0 => [(0, .box [.row 10]), (10, .row 3 (.ints (l.take i)))]) (fun i x0 => [(6, .clo 130 [.pto [.ls (.ints l)]]), (2, .loc 0 0), (4, .im (.val (.slice none 0 0))), (5, .int (l.getD i 0))]) (fun i x0 => [(0, .box [.row 10]), (10, .row 3 (.ints (l.take i)))]) (()) ?_ ?_ (fun _ _ => rfl) (fun _ _ _ => by kernel_rfl) (fun _ _ => by kernel_rfl) ?_ ?_ ?_
  ·
   (unfold maxLen; omega)
  ·
   show True
   exact True.intro
  ·
   exact Hb
  ·
   intro Wr Or βr Gr l0 r0 i un hi0 hI0
   replace hI0 : True := hI0
   change Tri _ [(7, .int (l.getD i 0)), (6, .clo 130 [.pto [.ls (.ints l)]]), (2, .loc 0 0), (4, .im (.val (.slice none 0 0)))] [(970, .other l0 (.loop r0)), (0, .box [.row 10]), (10, .row 3 (.ints (l.take i)))] _ _
   refine Zt (Tz hcx [] [5] [7] [] ?_)
   refine fin_assign ?_ ?_
   ·
    exact Eb
   ·
    exact Hb
  ·
   intro Wr Or βr Gr l0 r0 i un hi0 hI0
   replace hI0 : True := hI0
   change Tri _ [(6, .clo 130 [.pto [.ls (.ints l)]]), (2, .loc 0 0), (4, .im (.val (.slice none 0 0))), (5, .int (l.getD i 0))] [(970, .other l0 (.loop r0)), (0, .box [.row 10]), (10, .row 3 (.ints (l.take i)))] _ _
   refine Zt (Zb (Tq hcx [(0, .to 0), (1003, .to 10)] [] [6, 2, 4, 5] [10] [(((l.take i).length + [(l.getD i 0)].length) * 8 ≤ 140737488355328)] ?_ (Fb (Fn [(970, .to 970), (0, .to 0), (10, .to 10)] [] ?_))))
   ·
    refine ap ?_ az
    first | omega | exact id | exact vcNot | exact vcG | exact vcH | (intro _; omega) | exact (fun _ h => h) | (intro h; simp at h; omega) | (simp only [List.length_cons, List.length_nil, List.length_append, List.length_map, List.length_set, List.length_replicate]; omega) | (intro h; simp [h]; done) | exact True.intro | (simp only [List.length_cons, List.length_nil, List.length_take]; omega) | done
   refine fin_rnext (()) ?_ ?_
   ·
    show True
    exact True.intro
   ·
    exact Hx 10 (congrArg (fun x => AObj.row 3 (.ints x)) (show ((l.take i) ++ [(l.getD i 0)]) = (l.take (i + 1)) from (by exact (Cn.take_sD (by omega)).symm))) Hb
  ·
   intro D0 un hI0
   replace hI0 : True := hI0
   change Fin _ [(6, .clo 130 [.pto [.ls (.ints l)]]), (2, .loc 0 0), (4, .im (.val (.slice none 0 0)))] [(989, .other D0 dfr), (0, .box [.row 10]), (10, .row 3 (.ints (l.take l.length)))] _ _
   exact Zf (Fb (Ft (Sz hcx [] [4] [6, 2] [0] (Zr (Fn [(10, .to 0), (989, .to 989)] [4] (Fq [(4, .row 0)] [(0, .row 3 (.ints (l.take l.length))), (989, .other D0 dfr)] (fin_retM _ rfl [(989, D0)] rfl rfl ⟨rfl, trivial⟩ hcx (avs := [.row 0]) (by kernel_rfl) rfl [true] (Eq.trans (show _ = [some (.row 3 (.ints (l.take l.length)))] from by kernel_rfl) (consO (congrArg some (congrArg (fun x => AObj.row 3 (.ints x)) (show (l.take l.length) = l from (by exact List.take_length)))) rfl)))))))))
 ·
  cases hσ
def cx_sCollect : Cx := ⟨tyPrf, [(158, sAppSeq_σ)], true⟩
theorem cx_sCollect_ok : CxOk Tryz.prog cx_sCollect := cx_ok tyPrf_ok ⟨sAppSeq_sound, trivial⟩
def sCollect_σ : CtF
  | [.clo 130 [.pto [.ls (.ints l)]]], [] => some (l.length ≤ 1000000000000, .row 0, [some (.row 3 (.ints l))])
  | _, _ => none
theorem sCollect_sound : Sound Tryz.prog 128 sCollect_σ := by
 refine Sw (cx := cx_sCollect) Tryz.f128 Tryz.func128 ?_
 intro wW wO wβ G0 args os p r outs hσ hp
 have hcx := cx_sCollect_ok
 unfold sCollect_σ at hσ
 split at hσ
 ·
  rename_i l
  cases hσ
  refine ⟨by kernel_rfl, ?_⟩
  refine Sz hcx [] [] [] [] (Sq hcx [(1001, .to 204)] [2] [0] [] [(l.length ≤ 1000000000000)] ?_ (Zr (Fn [(204, .to 0)] [2] (Ru hcx [true]))))
  ·
   refine ap ?_ az
   first | exact hp | done
 ·
  cases hσ
def cx_sSorted : Cx := ⟨tyPrf, [(129, sSortI), (128, sCollect_σ)], true⟩
theorem cx_sSorted_ok : CxOk Tryz.prog cx_sSorted := cx_ok tyPrf_ok ⟨sSortI_sound, sCollect_sound, trivial⟩
def sSorted_σ : CtF
  | [.clo 130 [.pto [.ls (.ints l)]]], [] => some (l.length ≤ 1000000000000, .row 0, [some (.row 3 (.ints (Cn.sortI l)))])
  | _, _ => none
theorem sSorted_sound : Sound Tryz.prog 108 sSorted_σ := by
 refine Sw (cx := cx_sSorted) Tryz.f108 Tryz.func108 ?_
 intro wW wO wβ G0 args os p r outs hσ hp
 have hcx := cx_sSorted_ok
 unfold sSorted_σ at hσ
 split at hσ
 ·
  rename_i l
  cases hσ
  refine ⟨by kernel_rfl, ?_⟩
  refine Sz hcx [] [] [] [] (Sq hcx [(1001, .to 205)] [3] [0] [] [(l.length ≤ 1000000000000)] ?_ (Sq hcx [(205, .to 205)] [] [] [] [(l.length ≤ 1000000000000)] ?_ (Sz hcx [] [2] [3] [] (Zr (Fn [(205, .to 0)] [2] (Ru hcx [true]))))))
  ·
   refine ap ?_ az
   first | exact hp | done
  ·
   refine ap ?_ az
   first | exact hp | done
 ·
  cases hσ
def cx_pSet : Cx := ⟨tyPrf, [(99, sCompact), (109, (coeF [.ld (.ints [])] sValues_σ)), (108, sSorted_σ)], true⟩
theorem cx_pSet_ok : CxOk Tryz.prog cx_pSet := cx_ok tyPrf_ok ⟨sCompact_sound, (sValues_sound.coe [.ld (.ints [])] rfl), sSorted_sound, trivial⟩
def pSet_σ : CtF
  | [.im (.ls (.ints l))], [] => some (l.length ≤ 1000000000000, .row 0, [some (.row 3 (.ints (Cn.setI l)))])
  | _, _ => none
theorem pSet_sound : Sound Tryz.prog 79 pSet_σ := by
 refine Sw (cx := cx_pSet) Tryz.f79 Tryz.func79 ?_
 intro wW wO wβ G0 args os p r outs hσ hp
 have hcx := cx_pSet_ok
 unfold pSet_σ at hσ
 split at hσ
 ·
  rename_i l
  cases hσ
  refine ⟨by kernel_rfl, ?_⟩
  refine Sz hcx [] [] [] [] (Sq hcx [(1003, .to 206)] [2] [0] [] [(True), (l.length ≤ 1000000000000), ((Cn.sortI l).length ≤ 1000000000000)] ?_ (Zr (Fn [(206, .to 0)] [2] (Rv hcx rfl [true] (consO (congrArg some (congrArg (fun x => AObj.row 3 (.ints x)) (show (Lib.compact (Cn.sortI l)) = (Cn.setI l) from (by first | rfl | (simp; done))))) rfl)))))
  ·
   refine ap ?_ (ap ?_ (ap ?_ az)) <;>
    first | exact True.intro | exact hp | (rw [Cn.sortI_len]; exact hp) | done
 ·
  cases hσ
def cx_sEqual : Cx := ⟨tyPrf, [], true⟩
theorem cx_sEqual_ok : CxOk Tryz.prog cx_sEqual := cx_ok tyPrf_ok trivial
def sEqual_σ : CtF
  | [.im (.ls (.ints a)), .im (.ls (.ints b))], [] => some (a.length ≤ maxLen ∧ b.length ≤ maxLen, .bool (a == b), [])
  | _, _ => none
theorem sEqual_sound : Sound Tryz.prog 81 sEqual_σ := by
 refine Sw (cx := cx_sEqual) Tryz.f81 Tryz.func81 ?_
 intro wW wO wβ G0 args os p r outs hσ hp
 have hcx := cx_sEqual_ok
 have hmx : Tryz.prog.follows .mixedOrders = true := by kernel_rfl
 unfold sEqual_σ at hσ
 split at hσ
 ·
  rename_i a b
  cases hσ
  refine ⟨by kernel_rfl, ?_⟩
  obtain ⟨hm1, hm2⟩ := hp
  unfold maxLen at hm1 hm2
  refine Sz hcx [] [] [] [] (Zs (Sz hcx [] [10] [] [] (Zi (b := (a.length : Int) != (b.length : Int)) (fun h0 => ?_) fun h0 => ?_)))
  ·
   replace h0 := bne_iff_ne.1 h0
   have hne := h0
   exact Sz hcx [] [4] [10, 0, 1] [] (Zr (Fr (Rv hcx (congrArg AV.bool (show false = (a == b) from (by first | exact (Cn.eq_len (by omega)).symm | exact (Cn.eq_no (by omega) hq).symm | exact (Cn.eq_yes (by omega) (fun j hj => hok j (by omega))).symm))) [] rfl)))
  ·
   replace h0 := bneF h0
   have hle := h0
   refine Zk (Ft (Zs (Sz hcx [] [12, 13] [10] [] (Zb (Lp (X := Nat) (fun x0 => x0 ≤ a.length ∧ ∀ j, j < x0 → a.getD j 0 = b.getD j 0) (fun x0 => ([(0, .ints a), (1, .ints b), (12, .int (a.length : Int)), (13, .int (x0 : Int))], [])) (fun x0 => a.length - x0) (0) ?_ (Ex 13 (congrArg AV.int (show 0 = (0 : Int) from (by first | rfl | omega | (simp; done)))) Eb) Hb fun k hI => ?_)))))
   ·
    exact ⟨Nat.zero_le _, fun j hj => by omega⟩
   ·
    try dsimp only at hI
    obtain ⟨hk, hok⟩ := hI
    refine Sz hcx [] [14] [] [] (Zs (Zj (p := ((k : Int) < (a.length : Int))) (fun h1 => ?_) fun h1 => ?_))
    ·
     refine Zk (Ft (Zs (Zb (Sz hcx [] [5] [14] [] (Sd hcx hmx [0, 0, 3, 7, 0, 0, 48, 112, 255] [] [24] [5] [] [((0 : Int) ≤ (k : Int) ∧ (k : Int) < (a.length : Int)), ((0 : Int) ≤ (k : Int) ∧ (k : Int) < (b.length : Int))] ?_ (Zi (b := (a.getD k 0) != (b.getD k 0)) (fun h2 => ?_) fun h2 => ?_))))))
     ·
      refine ap ?_ (ap ?_ az) <;>
       first | omega | exact id | exact vcNot | exact vcG | exact vcH | (intro _; omega) | exact (fun _ h => h) | (intro h; simp at h; omega) | (simp only [List.length_cons, List.length_nil, List.length_append, List.length_map, List.length_set, List.length_replicate]; omega) | (intro h; simp [h]; done) | (constructor <;> omega) | done
     ·
      replace h2 := bne_iff_ne.1 h2
      have hq := h2
      exact Sz hcx [] [4] [24, 0, 1, 12, 13] [] (Zr (Fk (Fr (Fr (Fk (Fr (Rv hcx (congrArg AV.bool (show false = (a == b) from (by first | exact (Cn.eq_len (by omega)).symm | exact (Cn.eq_no (by omega) hq).symm | exact (Cn.eq_yes (by omega) (fun j hj => hok j (by omega))).symm))) [] rfl)))))))
     ·
      replace h2 := bneF h2
      have hq := h2
      refine Zk (Fb (Ft (Tq hcx [] [13] [24] [] [Fit ((k : Int) + 1)] ?_ (Lr (k + 1) ?_ ?_ (Ex 13 (congrArg AV.int (show ((k : Int) + 1) = ((k + 1) : Int) from (by first | rfl | omega | (simp; done)))) Eb) Hb))))
      ·
       refine ap ?_ az
       first | omega | exact id | exact vcNot | exact vcG | exact vcH | (intro _; omega) | exact (fun _ h => h) | (intro h; simp at h; omega) | (simp only [List.length_cons, List.length_nil, List.length_append, List.length_map, List.length_set, List.length_replicate]; omega) | (intro h; simp [h]; done) | (constructor <;> omega) | done
      ·
       exact ⟨by omega, fun j hj => by rcases (by omega : j < k ∨ j = k) with h | rfl; exact hok j h; exact hq⟩
      ·
       show a.length - (k + 1) < a.length - k
       omega
    ·
     exact Ze (Fe (Fe (Fs (Ft (Sz hcx [] [4] [14, 0, 1, 12, 13] [] (Zr (Rv hcx (congrArg AV.bool (show true = (a == b) from (by first | exact (Cn.eq_len (by omega)).symm | exact (Cn.eq_no (by omega) hq).symm | exact (Cn.eq_yes (by omega) (fun j hj => hok j (by omega))).symm))) [] rfl)))))))
 ·
  cases hσ
def cx_pAlike : Cx := ⟨tyPrf, [(79, (coeF [.ld (.ints [])] pSet_σ))], true⟩
theorem cx_pAlike_ok : CxOk Tryz.prog cx_pAlike := cx_ok tyPrf_ok ⟨(pSet_sound.coe [.ld (.ints [])] rfl), trivial⟩
def pAlike_σ : CtF
  | [.im (.ls (.ints l))], [] => some (l.length ≤ 1000000000000, .clo 80 [.pto [.ls (.ints (Cn.setI l))]], [])
  | _, _ => none
theorem pAlike_sound : Sound Tryz.prog 48 pAlike_σ := by
 refine Sw (cx := cx_pAlike) Tryz.f48 Tryz.func48 ?_
 intro wW wO wβ G0 args os p r outs hσ hp
 have hcx := cx_pAlike_ok
 unfold pAlike_σ at hσ
 split at hσ
 ·
  rename_i l
  cases hσ
  refine ⟨by kernel_rfl, ?_⟩
  refine Sz hcx [] [] [] [] (Sq hcx [(1001, .to 205), (1002, .to 603)] [3] [0] [] [(l.length ≤ 1000000000000)] ?_ (Zs (Zn [(603, .to 603), (205, .frz)] [3] (Zn [(603, .frz)] [3] (Tz hcx [] [2] [3] [] (Ft (Zr (Ru hcx []))))))))
  ·
   refine ap ?_ az
   first | exact hp | done
 ·
  cases hσ
def cx_pAlike1 : Cx := ⟨tyPrf, [(79, (coeF [.ld (.ints [])] pSet_σ)), (81, (coeF [.ld (.ints []), .ld (.ints [])] sEqual_σ))], true⟩
theorem cx_pAlike1_ok : CxOk Tryz.prog cx_pAlike1 := cx_ok tyPrf_ok ⟨(pSet_sound.coe [.ld (.ints [])] rfl), (sEqual_sound.coe [.ld (.ints []), .ld (.ints [])] rfl), trivial⟩
def pAlike1_σ : CtF
  | [.im (.ls (.ints x)), .pto [.ls (.ints w)]], [] => some (x.length ≤ 1000000000000 ∧ w.length ≤ 1000000000000, .bool (Cn.setI x == w), [])
  | _, _ => none
theorem pAlike1_sound : Sound Tryz.prog 80 pAlike1_σ := by
 refine Sw (cx := cx_pAlike1) Tryz.f80 Tryz.func80 ?_
 intro wW wO wβ G0 args os p r outs hσ hp
 have hcx := cx_pAlike1_ok
 have hmx : Tryz.prog.follows .mixedOrders = true := by kernel_rfl
 unfold pAlike1_σ at hσ
 split at hσ
 ·
  rename_i x w
  cases hσ
  refine ⟨by kernel_rfl, ?_⟩
  refine Sz hcx [] [] [] [] (Sd hcx hmx [0, 1, 0, 7, 15] [] [3] [0, 1] [] [(x.length ≤ 1000000000000), ((Cn.setI x).length ≤ maxLen ∧ w.length ≤ maxLen)] ?_ (Zr (Ru hcx [])))
  ·
   refine ap ?_ (ap ?_ az) <;>
    first | exact hp.1 | (have h8 := Cn.setI_len x; unfold maxLen; omega) | done
 ·
  cases hσ
def cx_ixAl : Cx := ⟨tyPrf, [(80, (coeF [.ld (.ints []), .id] pAlike1_σ))], true⟩
theorem cx_ixAl_ok : CxOk Tryz.prog cx_ixAl := cx_ok tyPrf_ok ⟨(pAlike1_sound.coe [.ld (.ints []), .id] rfl), trivial⟩
def ixAl_σ : CtF
  | [.im (.ls (.intss s)), .clo 80 [.pto [.ls (.ints w)]]], [] => some (s.length ≤ maxLen ∧ (∀ x ∈ s, x.length ≤ 1000000000000) ∧ w.length ≤ 1000000000000, .int (Cn.idxF (fun x => Cn.setI x == w) s), [])
  | _, _ => none
theorem ixAl_sound : Sound Tryz.prog 51 ixAl_σ := by
 refine Sw (cx := cx_ixAl) Tryz.f51 Tryz.func51 ?_
 intro wW wO wβ G0 args os p r outs hσ hp
 have hcx := cx_ixAl_ok
 unfold ixAl_σ at hσ
 split at hσ
 ·
  rename_i s w
  cases hσ
  refine ⟨by kernel_rfl, ?_⟩
  obtain ⟨hm1, hpr⟩ := hp
  unfold maxLen at hm1
  refine Sz hcx [] [] [] [] (Zs (Sz hcx [] [7, 8] [] [] (Zb (Lp (X := Nat) (fun x0 => x0 ≤ s.length ∧ ∀ j, j < x0 → ((fun x => Cn.setI x == w) (s.getD j [])) = false) (fun x0 => ([(0, .intss s), (1, .clo 80 [.pto [.ls (.ints w)]]), (7, .int (s.length : Int)), (8, .int (x0 : Int))], [])) (fun x0 => s.length - x0) (0) ?_ (Ex 8 (congrArg AV.int (show 0 = (0 : Int) from (by first | rfl | omega | (simp; done)))) Eb) Hb fun k hI => ?_))))
  ·
   exact ⟨Nat.zero_le _, fun j hj => by omega⟩
  ·
   try dsimp only at hI
   obtain ⟨hk, hok⟩ := hI
   refine Sz hcx [] [9] [] [] (Zs (Zj (p := ((k : Int) < (s.length : Int))) (fun h0 => ?_) fun h0 => ?_))
   ·
    refine Zk (Ft (Zs (Zb (Sz hcx [] [5] [9] [] (Sq hcx [] [16] [] [] [((0 : Int) ≤ (k : Int) ∧ (k : Int) < (s.length : Int)), ((s.getD k []).length ≤ 1000000000000 ∧ w.length ≤ 1000000000000)] ?_ (Zi (b := Cn.setI (s.getD k []) == w) (fun h1 => ?_) fun h1 => ?_))))))
    ·
     refine ap ?_ (ap ?_ az) <;>
      first | omega | exact id | exact vcNot | exact vcG | exact vcH | (intro _; omega) | exact (fun _ h => h) | (intro h; simp at h; omega) | (simp only [List.length_cons, List.length_nil, List.length_append, List.length_map, List.length_set, List.length_replicate]; omega) | (intro h; simp [h]; done) | exact ⟨hpr.1 _ (Cn.getD_memL (by omega)), hpr.2⟩ | exact True.intro | done
    ·
     have hq : ((fun x => Cn.setI x == w) (s.getD k [])) = true := h1
     exact Sz hcx [] [4] [16, 5, 0, 1, 7, 8] [] (Zr (Fk (Fr (Fr (Fk (Fr (Rv hcx (congrArg AV.int (show (k : Int) = (Cn.idxF (fun x => Cn.setI x == w) s) from (by exact (Cn.idxF_yes (p := (fun x => Cn.setI x == w)) (by omega) hok hq).symm))) [] rfl)))))))
    ·
     have hq : ((fun x => Cn.setI x == w) (s.getD k [])) = false := h1
     refine Zk (Fb (Ft (Tq hcx [] [8] [16, 5] [] [Fit ((k : Int) + 1)] ?_ (Lr (k + 1) ?_ ?_ (Ex 8 (congrArg AV.int (show ((k : Int) + 1) = ((k + 1) : Int) from (by first | rfl | omega | (simp; done)))) Eb) Hb))))
     ·
      refine ap ?_ az
      first | omega | exact id | exact vcNot | exact vcG | exact vcH | (intro _; omega) | exact (fun _ h => h) | (intro h; simp at h; omega) | (simp only [List.length_cons, List.length_nil, List.length_append, List.length_map, List.length_set, List.length_replicate]; omega) | (intro h; simp [h]; done) | exact ⟨hpr.1 _ (Cn.getD_memL (by omega)), hpr.2⟩ | exact True.intro | done
     ·
      exact ⟨by omega, Cn.falseSucc hok hq⟩
     ·
      show s.length - (k + 1) < s.length - k
      omega
   ·
    exact Ze (Fe (Fe (Fs (Ft (Sz hcx [] [4] [9, 0, 1, 7, 8] [] (Zr (Rv hcx (congrArg AV.int (show (-1) = (Cn.idxF (fun x => Cn.setI x == w) s) from (by exact (Cn.idxF_no (p := (fun x => Cn.setI x == w)) (Cn.all_mem (d := []) (fun j hj => hok j (by omega)))).symm))) [] rfl)))))))
 ·
  cases hσ
def cx_ctAl : Cx := ⟨tyPrf, [(51, (coeF [.ld (.intss []), .id] ixAl_σ))], true⟩
theorem cx_ctAl_ok : CxOk Tryz.prog cx_ctAl := cx_ok tyPrf_ok ⟨(ixAl_sound.coe [.ld (.intss []), .id] rfl), trivial⟩
def ctAl_σ : CtF
  | [.im (.ls (.intss s)), .clo 80 [.pto [.ls (.ints w)]]], [] => some (s.length ≤ maxLen ∧ (∀ x ∈ s, x.length ≤ 1000000000000) ∧ w.length ≤ 1000000000000, .bool (s.any (fun x => Cn.setI x == w)), [])
  | _, _ => none
theorem ctAl_sound : Sound Tryz.prog 47 ctAl_σ := by
 refine Sw (cx := cx_ctAl) Tryz.f47 Tryz.func47 ?_
 intro wW wO wβ G0 args os p r outs hσ hp
 have hcx := cx_ctAl_ok
 unfold ctAl_σ at hσ
 split at hσ
 ·
  rename_i s w
  cases hσ
  refine ⟨by kernel_rfl, ?_⟩
  refine Sz hcx [] [] [] [] (Sq hcx [] [4] [0, 1] [] [(s.length ≤ maxLen ∧ (∀ x ∈ s, x.length ≤ 1000000000000) ∧ w.length ≤ 1000000000000)] ?_ (Zr (Rv hcx (congrArg AV.bool (show (decide ((Cn.idxF (fun x => Cn.setI x == w) s) ≥ 0)) = (s.any (fun x => Cn.setI x == w)) from (by exact Cn.idxF_any (p := (fun x => Cn.setI x == w)) s))) [] rfl)))
  ·
   refine ap ?_ az
   first | exact hp | (intro h; exact h) | omega
 ·
  cases hσ
def cx_pPut1 : Cx := ⟨tyPrf, [], true⟩
theorem cx_pPut1_ok : CxOk Tryz.prog cx_pPut1 := cx_ok tyPrf_ok trivial
def pPut1_σ : CtF
  | [.im (.ls (.ints l)), .loc 0 0], [.box [.row 1], .row 23 (.intss cs)] => some (cs.length ≤ 1000000, .tup [], [some (.box [.row 2]), none, some (.row 23 (.intss (cs ++ [l])))])
  | _, _ => none
theorem pPut1_sound : Sound Tryz.prog 45 pPut1_σ := by
 refine Sw (cx := cx_pPut1) Tryz.f45 Tryz.func45 ?_
 intro wW wO wβ G0 args os p r outs hσ hp
 have hcx := cx_pPut1_ok
 unfold pPut1_σ at hσ
 split at hσ
 ·
  rename_i l cs
  cases hσ
  refine ⟨by kernel_rfl, ?_⟩
  refine Tq hcx [(0, .to 0), (1003, .to 206)] [] [0, 1] [1] [((cs.length + [l].length) * 24 ≤ 140737488355328)] ?_ (Fn [(0, .to 0), (206, .to 2)] [] (Rw hcx rfl [true, false, true] rfl))
  ·
   refine ap ?_ az
   first | omega | exact id | exact vcNot | exact vcG | exact vcH | (intro _; omega) | exact (fun _ h => h) | (intro h; simp at h; omega) | (simp only [List.length_cons, List.length_nil, List.length_append, List.length_map, List.length_set, List.length_replicate]; omega) | (intro h; simp [h]; done) | (simp only [List.length_cons, List.length_nil]; omega) | done
 ·
  cases hσ
def cx_pGiven : Cx := ⟨tyPrf, [(48, (coeF [.ld (.ints [])] pAlike_σ)), (47, (coeF [.ld (.intss []), .id] ctAl_σ)), (45, (coeF [.ld (.ints []), .id] pPut1_σ))], true⟩
theorem cx_pGiven_ok : CxOk Tryz.prog cx_pGiven := cx_ok tyPrf_ok ⟨(pAlike_sound.coe [.ld (.ints [])] rfl), (ctAl_sound.coe [.ld (.intss []), .id] rfl), (pPut1_sound.coe [.ld (.ints []), .id] rfl), trivial⟩
def pGiven_σ : CtF
  | [.im (.ls (.ints l)), .loc 0 0, .pto [.val (.int .i64 N), .ls (.intss L)]], [.box [.clo 45 [.loc 1 0]], .box [.row 2], .row 23 (.intss cs)] => some (cs.length ≤ 1000000 ∧ (∀ x ∈ cs, x.length ≤ 1000000000000) ∧ l.length ≤ 1000000000000 ∧ L.length ≤ maxLen ∧ ∀ x ∈ L, x.length ≤ 1000000000000, .bool (L.any fun y => Cn.alikeB y l), [some (.box [.clo 45 [.loc 1 0]]), some (.box [.row 3]), none, some (.row 23 (.intss (cs ++ [l])))])
  | _, _ => none
theorem pGiven_sound : Sound Tryz.prog 46 pGiven_σ := by
 refine Sw (cx := cx_pGiven) Tryz.f46 Tryz.func46 ?_
 intro wW wO wβ G0 args os p r outs hσ hp
 have hcx := cx_pGiven_ok
 have hmx : Tryz.prog.follows .mixedOrders = true := by kernel_rfl
 unfold pGiven_σ at hσ
 split at hσ
 ·
  rename_i l N L cs
  cases hσ
  refine ⟨by kernel_rfl, ?_⟩
  obtain ⟨hm1, hm2, hm3, hm4, hm5⟩ := hp
  refine Sz hcx [] [] [] [] (Sq hcx [(1, .to 1), (1002, .to 207)] [] [1] [2] [(cs.length ≤ 1000000)] ?_ (Sd hcx hmx [0, 1, 0, 4, 15, 31] [] [4] [0, 2] [] [(l.length ≤ 1000000000000), (L.length ≤ maxLen ∧ (∀ x ∈ L, x.length ≤ 1000000000000) ∧ (Cn.setI l).length ≤ 1000000000000)] ?_ (Zr (Fn [(0, .to 0), (1, .to 1), (207, .to 3)] [4] (Rv hcx (congrArg AV.bool (show (L.any (fun x => Cn.setI x == (Cn.setI l))) = (L.any fun y => Cn.alikeB y l) from (by exact Cn.any_alike L l))) [true, true, false, true] rfl)))))
  ·
   refine ap ?_ az
   first | exact hm1 | exact hm3 | exact ⟨hm4, hm5, Nat.le_trans (Cn.setI_len l) hm3⟩ | done
  ·
   refine ap ?_ (ap ?_ az) <;>
    first | exact hm1 | exact hm3 | exact ⟨hm4, hm5, Nat.le_trans (Cn.setI_len l) hm3⟩ | done
 ·
  cases hσ
def cx_pLearnt : Cx := ⟨tyPrf, [(14, (coeF [.ld (.intss []), .ld (.ints [])] pFlw_σ)), (45, (coeF [.ld (.ints []), .id] pPut1_σ))], true⟩
theorem cx_pLearnt_ok : CxOk Tryz.prog cx_pLearnt := cx_ok tyPrf_ok ⟨(pFlw_sound.coe [.ld (.intss []), .ld (.ints [])] rfl), (pPut1_sound.coe [.ld (.ints []), .id] rfl), trivial⟩
def pLearnt_σ : CtF
  | [.im (.ls (.ints l)), .loc 0 0, .loc 1 0], [.box [.row 2], .box [.clo 45 [.loc 0 0]], .row 23 (.intss cs)] => some (cs.length ≤ 1000000 ∧ (∀ x ∈ cs, x.length ≤ 1000000000000) ∧ l.length ≤ 1000000000000, .bool (Cn.flwV cs l), [some (.box [.row 3]), some (.box [.clo 45 [.loc 0 0]]), none, some (.row 23 (.intss (cs ++ [l])))])
  | _, _ => none
theorem pLearnt_sound : Sound Tryz.prog 49 pLearnt_σ := by
 refine Sw (cx := cx_pLearnt) Tryz.f49 Tryz.func49 ?_
 intro wW wO wβ G0 args os p r outs hσ hp
 have hcx := cx_pLearnt_ok
 unfold pLearnt_σ at hσ
 split at hσ
 ·
  rename_i l cs
  cases hσ
  refine ⟨by kernel_rfl, ?_⟩
  obtain ⟨hm1, hm2, hm3⟩ := hp
  refine Sz hcx [] [] [] [] (Sq hcx [] [5] [1] [] [(cs.length ≤ 1000000000 ∧ (∀ x ∈ cs, x.length ≤ maxLen) ∧ l.length ≤ maxLen)] ?_ (Sq hcx [(0, .to 0), (1002, .to 211)] [] [0, 2] [2] [(cs.length ≤ 1000000)] ?_ (Sz hcx [] [4] [5] [] (Zr (Fn [(0, .to 0), (1, .to 1), (211, .to 3)] [4] (Ru hcx [true, true, false, true]))))))
  ·
   refine ap ?_ az
   first | exact hm1 | exact ⟨by omega, fun x hx => by have := hm2 x hx; unfold maxLen; omega, by unfold maxLen; omega⟩ | done
  ·
   refine ap ?_ az
   first | exact hm1 | exact ⟨by omega, fun x hx => by have := hm2 x hx; unfold maxLen; omega, by unfold maxLen; omega⟩ | done
 ·
  cases hσ
def cx_pDrop : Cx := ⟨tyPrf, [(39, sDelL), (48, (coeF [.ld (.ints [])] pAlike_σ)), (51, (coeF [.ld (.intss []), .id] ixAl_σ))], true⟩
theorem cx_pDrop_ok : CxOk Tryz.prog cx_pDrop := cx_ok tyPrf_ok ⟨sDelL_sound, (pAlike_sound.coe [.ld (.ints [])] rfl), (ixAl_sound.coe [.ld (.intss []), .id] rfl), trivial⟩
def pDrop_σ : CtF
  | [.im (.ls (.ints l)), .loc 0 0], [.box [.row 1], .row 23 (.intss cs)] => some (cs.length ≤ 1000000 ∧ (∀ x ∈ cs, x.length ≤ 1000000000000) ∧ l.length ≤ 1000000000000, .bool (decide (0 ≤ Cn.idxF (fun y => Cn.alikeB y l) cs)), [some (.box [.row 2]), none, some (.row 23 (.intss (Cn.dropC cs l)))])
  | _, _ => none
theorem pDrop_sound : Sound Tryz.prog 50 pDrop_σ := by
 refine Sw (cx := cx_pDrop) Tryz.f50 Tryz.func50 ?_
 intro wW wO wβ G0 args os p r outs hσ hp
 have hcx := cx_pDrop_ok
 have hmx : Tryz.prog.follows .mixedOrders = true := by kernel_rfl
 unfold pDrop_σ at hσ
 split at hσ
 ·
  rename_i l cs
  cases hσ
  refine ⟨by kernel_rfl, ?_⟩
  obtain ⟨hm1, hm2, hm3⟩ := hp
  refine Sz hcx [] [] [] [] (Sd hcx hmx [0, 0, 2, 7, 15] [] [4] [0] [] [(l.length ≤ 1000000000000), (cs.length ≤ maxLen ∧ (∀ x ∈ cs, x.length ≤ 1000000000000) ∧ (Cn.setI l).length ≤ 1000000000000)] ?_ (Zs (Sz hcx [] [10] [] [] (Zj (p := ((Cn.idxF (fun x => Cn.setI x == (Cn.setI l)) cs) ≥ 0)) (fun h0 => ?_) fun h0 => ?_))))
  ·
   refine ap ?_ (ap ?_ az) <;>
    first | exact hm3 | exact ⟨by unfold maxLen; omega, hm2, Nat.le_trans (Cn.setI_len l) hm3⟩ | (constructor <;> omega) | exact ⟨by omega, by omega, by omega, by omega⟩ | omega | done
  ·
   have hq := h0
   have hlt := Cn.idx_lt hq
   refine Tq hcx [(0, .to 0), (1004, .to 215)] [] [10, 1] [1] [Fit ((Cn.idxF (fun x => Cn.setI x == (Cn.setI l)) cs) + 1), (0 ≤ (Cn.idxF (fun x => Cn.setI x == (Cn.setI l)) cs) ∧ (Cn.idxF (fun x => Cn.setI x == (Cn.setI l)) cs) < ((Cn.idxF (fun x => Cn.setI x == (Cn.setI l)) cs) + 1) ∧ ((Cn.idxF (fun x => Cn.setI x == (Cn.setI l)) cs) + 1) ≤ cs.length ∧ cs.length ≤ 1000000000000)] ?_ (Ft (Sz hcx [] [3] [4] [] (Zr (Fn [(0, .to 0), (215, .to 2)] [3] (Rv hcx (congrArg AV.bool (show (decide ((Cn.idxF (fun x => Cn.setI x == (Cn.setI l)) cs) ≥ 0)) = (decide (0 ≤ Cn.idxF (fun y => Cn.alikeB y l) cs)) from (by first | (rw [Cn.idx_alike]; done) | (rw [Cn.idx_alike]; rfl)))) [true, false, true] (consO rfl (consO rfl (consO (congrArg some (congrArg (fun x => AObj.row 23 (.intss x)) (show (cs.take (Cn.idxF (fun x => Cn.setI x == (Cn.setI l)) cs).toNat ++ cs.drop ((Cn.idxF (fun x => Cn.setI x == (Cn.setI l)) cs) + 1).toNat) = (Cn.dropC cs l) from (by first | exact Cn.drop_yes hq | exact Cn.drop_no hq)))) rfl))))))))
   ·
    refine ap ?_ (ap ?_ az) <;>
     first | exact hm3 | exact ⟨by unfold maxLen; omega, hm2, Nat.le_trans (Cn.setI_len l) hm3⟩ | (constructor <;> omega) | exact ⟨by omega, by omega, by omega, by omega⟩ | omega | done
  ·
   have hq := h0
   exact Zk (Ft (Sz hcx [] [3] [10, 4, 1] [] (Zr (Fn [(0, .to 0), (1, .to 2)] [3] (Rv hcx (congrArg AV.bool (show (decide ((Cn.idxF (fun x => Cn.setI x == (Cn.setI l)) cs) ≥ 0)) = (decide (0 ≤ Cn.idxF (fun y => Cn.alikeB y l) cs)) from (by first | (rw [Cn.idx_alike]; done) | (rw [Cn.idx_alike]; rfl)))) [true, false, true] (consO rfl (consO rfl (consO (congrArg some (congrArg (fun x => AObj.row 23 (.intss x)) (show cs = (Cn.dropC cs l) from (by first | exact Cn.drop_yes hq | exact Cn.drop_no hq)))) rfl))))))))
 ·
  cases hσ
def cx_pCheck : Cx := ⟨tyPrf, [(14, (coeF [.ld (.intss []), .ld (.ints [])] pFlw_σ)), (43, (coeF [.ld (.lines [])] pFormed_σ)), (46, (coeF [.ld (.ints []), .id, .id] pGiven_σ)), (49, (coeF [.ld (.ints []), .id, .id] pLearnt_σ)), (50, (coeF [.ld (.ints []), .id] pDrop_σ)), (27, (coeF [.agg [.id, .ld (.intss [])]] cCheck_σ)), (44, (coeF [.ld (.ints []), .id] sContains_σ))], true⟩
theorem cx_pCheck_ok : CxOk Tryz.prog cx_pCheck := cx_ok tyPrf_ok ⟨(pFlw_sound.coe [.ld (.intss []), .ld (.ints [])] rfl), (pFormed_sound.coe [.ld (.lines [])] rfl), (pGiven_sound.coe [.ld (.ints []), .id, .id] rfl), (pLearnt_sound.coe [.ld (.ints []), .id, .id] rfl), (pDrop_sound.coe [.ld (.ints []), .id] rfl), (cCheck_sound.coe [.agg [.id, .ld (.intss [])]] rfl), (sContains_sound.coe [.ld (.ints []), .id] rfl), trivial⟩
def pCheck_σ : CtF
  | [.agg [.im (.val (.int .i64 N)), .im (.ls (.intss L))], .im (.ls (.lines p)), .im (.ls (.ints core))], [] => some (L.length ≤ maxLen ∧ (∀ x ∈ L, x.length ≤ 1000000000000) ∧ p.length ≤ maxLen ∧ (∀ x ∈ p, x.2.length ≤ 1000000000000) ∧ core.length ≤ 1000000000000, .int (Cn.chkC N L p core), [])
  | _, _ => none
set_option maxRecDepth 20000 in
theorem pCheck_sound : Sound Tryz.prog 17 pCheck_σ := by
 refine Sw (cx := cx_pCheck) Tryz.f17 Tryz.func17 ?_
 intro wW wO wβ G0 args os p r outs hσ hp
 have hcx := cx_pCheck_ok
 unfold pCheck_σ at hσ
 split at hσ
 ·
  rename_i N L p core
  cases hσ
  refine ⟨by kernel_rfl, ?_⟩
  obtain ⟨hm1, hm2, hm3, hm4, hm5⟩ := hp
  have h12 : ∀ n : Nat, n ≤ 1000000000000 → n ≤ maxLen := fun n hn => by unfold maxLen; omega
  refine Sz hcx [(1000, .frz)] [3] [0] [] (Zs (Sq hcx [] [7] [] [] [(L.length ≤ maxLen ∧ ∀ l ∈ L, l.length ≤ maxLen)] ?_ (Sz hcx [] [20] [] [] (Zx (a := (Cn.chkV N L)) (b := 0) (fun h0 => ?_) fun h0 => ?_))))
  ·
   refine ap ?_ az
   first | omega | exact id | exact vcNot | exact vcG | exact vcH | (intro _; omega) | exact (fun _ h => h) | (intro h; simp at h; omega) | (simp only [List.length_cons, List.length_nil, List.length_append, List.length_map, List.length_set, List.length_replicate]; omega) | (intro h; simp [h]; done) | exact ⟨hm1, fun x hx => h12 _ (hm2 x hx)⟩ | exact ⟨hm3, fun x hx => h12 _ (hm4 x hx)⟩ | (constructor <;> omega) | (intro _; constructor <;> omega) | exact (fun h => Cn.core_fit hN.1 hN.2 h) | (simp only [List.length_cons, List.length_nil, List.length_map, List.length_take]; omega) | (intro _; rw [List.length_drop, List.length_take]; exact h12 _ (by omega)) | exact ⟨by omega, hcs, hxl (by omega), hm1, hm2⟩ | exact ⟨by omega, hcs, hxl (by omega)⟩ | exact ⟨by omega, fun x hx => h12 _ (hcs x hx), by rw [List.length_map, List.length_take]; exact h12 _ (by omega)⟩ | done
  ·
   have hr := Cn.chk_e1 (p := p) (core := core) h0
   exact Sz hcx [] [6] [20, 7, 3, 1, 2] [] (Zr (Fr (Rv hcx (congrArg AV.int (show (Cn.chkV N L) = (Cn.chkC N L p core) from (by first | exact hr.symm | (rw [hr, he]; done) | done))) [] rfl)))
  ·
   have hc0 : Cn.chkV N L = 0 := by simpa using h0
   have hN := (Cn.chkV_0.1 hc0).1
   refine Zk (Ft (Zs (Sq hcx [] [8] [20, 7] [] [(p.length ≤ maxLen ∧ ∀ x ∈ p, x.2.length ≤ maxLen)] ?_ (Sz hcx [] [25] [] [] (Zx (a := (Cn.frmV p)) (b := 0) (fun h1 => ?_) fun h1 => ?_)))))
   ·
    refine ap ?_ az
    first | omega | exact id | exact vcNot | exact vcG | exact vcH | (intro _; omega) | exact (fun _ h => h) | (intro h; simp at h; omega) | (simp only [List.length_cons, List.length_nil, List.length_append, List.length_map, List.length_set, List.length_replicate]; omega) | (intro h; simp [h]; done) | exact ⟨hm1, fun x hx => h12 _ (hm2 x hx)⟩ | exact ⟨hm3, fun x hx => h12 _ (hm4 x hx)⟩ | (constructor <;> omega) | (intro _; constructor <;> omega) | exact (fun h => Cn.core_fit hN.1 hN.2 h) | (simp only [List.length_cons, List.length_nil, List.length_map, List.length_take]; omega) | (intro _; rw [List.length_drop, List.length_take]; exact h12 _ (by omega)) | exact ⟨by omega, hcs, hxl (by omega), hm1, hm2⟩ | exact ⟨by omega, hcs, hxl (by omega)⟩ | exact ⟨by omega, fun x hx => h12 _ (hcs x hx), by rw [List.length_map, List.length_take]; exact h12 _ (by omega)⟩ | done
   ·
    have hr := Cn.chk_e2 (core := core) hc0 h1
    exact Sz hcx [] [6] [25, 8, 3, 1, 2] [] (Zr (Fr (Rv hcx (congrArg AV.int (show (Cn.frmV p) = (Cn.chkC N L p core) from (by first | exact hr.symm | (rw [hr, he]; done) | done))) [] rfl)))
   ·
    have hf0 : Cn.frmV p = 0 := by simpa using h1
    have hpl := (Cn.frm_ok.1 hf0).1
    refine Zk (Ft (Sz hcx [] [9] [25, 8] [] (Zs (Sz hcx [] [27, 28, 29] [] [] (Zb (Zw 9 700 3 (.ints []) (Lp (X := Nat) (fun x0 => x0 ≤ core.length ∧ ∀ j, j < x0 → Cn.coreAt N core j = true) (fun x0 => ([(1, .lines p), (2, .ints core), (3, .pto [.int N, .ls (.intss L)]), (9, .row 700), (27, .ints core), (28, .int (core.length : Int)), (29, .int (x0 : Int))], [(700, .row 3 (.ints ((core.take x0).map fun x => -x)))])) (fun x0 => core.length - x0) (0) ?_ (Ex 29 (congrArg AV.int (show 0 = (0 : Int) from (by first | rfl | omega | (simp; done)))) Eb) Hb fun i hI => ?_)))))))
    ·
     exact ⟨Nat.zero_le _, fun j hj => by omega⟩
    ·
     try dsimp only at hI
     obtain ⟨hk, hcok⟩ := hI
     refine Sz hcx [] [30] [] [] (Zs (Zj (p := ((i : Int) < (core.length : Int))) (fun h2 => ?_) fun h2 => ?_))
     ·
      refine Zk (Ft (Zs (Zb (Sq hcx [] [10, 11] [30] [] [((0 : Int) ≤ (i : Int) ∧ (i : Int) < (core.length : Int))] ?_ (Zs (Sq hcx [] [63] [10] [] [((!((core.getD i 0) == 0)) = true → ((!((core.getD i 0) == 0)) = true)), ((!((core.getD i 0) == 0)) = true → ((!((core.getD i 0) == 0)) = true)), ((!((core.getD i 0) == 0)) = true → ((!((core.getD i 0) == 0)) = true)), (((core.getD i 0) == 0) = false → (!((core.getD i 0) == 0)) = true), ((!(((core.getD i 0) == 0) || (decide ((core.getD i 0) > N)))) = true → ((!(((core.getD i 0) == 0) || (decide ((core.getD i 0) > N)))) = true)), ((!(((core.getD i 0) == 0) || (decide ((core.getD i 0) > N)))) = true → ((!(((core.getD i 0) == 0) || (decide ((core.getD i 0) > N)))) = true)), ((!(((core.getD i 0) == 0) || (decide ((core.getD i 0) > N)))) = true → Fit (-N)), ((!(((core.getD i 0) == 0) || (decide ((core.getD i 0) > N)))) = true → ((!(((core.getD i 0) == 0) || (decide ((core.getD i 0) > N)))) = true)), ((!(((core.getD i 0) == 0) || (decide ((core.getD i 0) > N)))) = true → ((!(((core.getD i 0) == 0) || (decide ((core.getD i 0) > N)))) = true)), ((((core.getD i 0) == 0) || (decide ((core.getD i 0) > N))) = false → (!(((core.getD i 0) == 0) || (decide ((core.getD i 0) > N)))) = true), ((!((((core.getD i 0) == 0) || (decide ((core.getD i 0) > N))) || (decide ((core.getD i 0) < (-N))))) = true → ((!((((core.getD i 0) == 0) || (decide ((core.getD i 0) > N))) || (decide ((core.getD i 0) < (-N))))) = true)), ((!((((core.getD i 0) == 0) || (decide ((core.getD i 0) > N))) || (decide ((core.getD i 0) < (-N))))) = true → ((!((((core.getD i 0) == 0) || (decide ((core.getD i 0) > N))) || (decide ((core.getD i 0) < (-N))))) = true)), ((!((((core.getD i 0) == 0) || (decide ((core.getD i 0) > N))) || (decide ((core.getD i 0) < (-N))))) = true → ((0 : Int) ≤ (i : Int) ∧ (i : Int) ≤ (core.length : Int))), ((!((((core.getD i 0) == 0) || (decide ((core.getD i 0) > N))) || (decide ((core.getD i 0) < (-N))))) = true → ((!((((core.getD i 0) == 0) || (decide ((core.getD i 0) > N))) || (decide ((core.getD i 0) < (-N))))) = true)), ((!((((core.getD i 0) == 0) || (decide ((core.getD i 0) > N))) || (decide ((core.getD i 0) < (-N))))) = true → ((!((((core.getD i 0) == 0) || (decide ((core.getD i 0) > N))) || (decide ((core.getD i 0) < (-N))))) = true)), ((!((((core.getD i 0) == 0) || (decide ((core.getD i 0) > N))) || (decide ((core.getD i 0) < (-N))))) = true → (((core.take i).drop 0).length ≤ maxLen)), (((((core.getD i 0) == 0) || (decide ((core.getD i 0) > N))) || (decide ((core.getD i 0) < (-N)))) = false → (!((((core.getD i 0) == 0) || (decide ((core.getD i 0) > N))) || (decide ((core.getD i 0) < (-N))))) = true), ((!(((((core.getD i 0) == 0) || (decide ((core.getD i 0) > N))) || (decide ((core.getD i 0) < (-N)))) || (((core.take i).drop 0).contains (core.getD i 0)))) = true → ((!(((((core.getD i 0) == 0) || (decide ((core.getD i 0) > N))) || (decide ((core.getD i 0) < (-N)))) || (((core.take i).drop 0).contains (core.getD i 0)))) = true)), ((!(((((core.getD i 0) == 0) || (decide ((core.getD i 0) > N))) || (decide ((core.getD i 0) < (-N)))) || (((core.take i).drop 0).contains (core.getD i 0)))) = true → ((!(((((core.getD i 0) == 0) || (decide ((core.getD i 0) > N))) || (decide ((core.getD i 0) < (-N)))) || (((core.take i).drop 0).contains (core.getD i 0)))) = true)), ((!(((((core.getD i 0) == 0) || (decide ((core.getD i 0) > N))) || (decide ((core.getD i 0) < (-N)))) || (((core.take i).drop 0).contains (core.getD i 0)))) = true → ((0 : Int) ≤ (i : Int) ∧ (i : Int) ≤ (core.length : Int))), ((!(((((core.getD i 0) == 0) || (decide ((core.getD i 0) > N))) || (decide ((core.getD i 0) < (-N)))) || (((core.take i).drop 0).contains (core.getD i 0)))) = true → ((!(((((core.getD i 0) == 0) || (decide ((core.getD i 0) > N))) || (decide ((core.getD i 0) < (-N)))) || (((core.take i).drop 0).contains (core.getD i 0)))) = true)), ((!(((((core.getD i 0) == 0) || (decide ((core.getD i 0) > N))) || (decide ((core.getD i 0) < (-N)))) || (((core.take i).drop 0).contains (core.getD i 0)))) = true → Fit (-(core.getD i 0))), ((!(((((core.getD i 0) == 0) || (decide ((core.getD i 0) > N))) || (decide ((core.getD i 0) < (-N)))) || (((core.take i).drop 0).contains (core.getD i 0)))) = true → ((!(((((core.getD i 0) == 0) || (decide ((core.getD i 0) > N))) || (decide ((core.getD i 0) < (-N)))) || (((core.take i).drop 0).contains (core.getD i 0)))) = true)), ((!(((((core.getD i 0) == 0) || (decide ((core.getD i 0) > N))) || (decide ((core.getD i 0) < (-N)))) || (((core.take i).drop 0).contains (core.getD i 0)))) = true → ((!(((((core.getD i 0) == 0) || (decide ((core.getD i 0) > N))) || (decide ((core.getD i 0) < (-N)))) || (((core.take i).drop 0).contains (core.getD i 0)))) = true)), ((!(((((core.getD i 0) == 0) || (decide ((core.getD i 0) > N))) || (decide ((core.getD i 0) < (-N)))) || (((core.take i).drop 0).contains (core.getD i 0)))) = true → (((core.take i).drop 0).length ≤ maxLen)), ((((((core.getD i 0) == 0) || (decide ((core.getD i 0) > N))) || (decide ((core.getD i 0) < (-N)))) || (((core.take i).drop 0).contains (core.getD i 0))) = false → (!(((((core.getD i 0) == 0) || (decide ((core.getD i 0) > N))) || (decide ((core.getD i 0) < (-N)))) || (((core.take i).drop 0).contains (core.getD i 0)))) = true)] ?_ (Zi (b := (((((core.getD i 0) == 0) || (decide ((core.getD i 0) > N))) || (decide ((core.getD i 0) < (-N)))) || (((core.take i).drop 0).contains (core.getD i 0))) || (((core.take i).drop 0).contains (-(core.getD i 0)))) (fun h3 => ?_) fun h3 => ?_)))))))
      ·
       refine ap ?_ az
       first | omega | exact id | exact vcNot | exact vcG | exact vcH | (intro _; omega) | exact (fun _ h => h) | (intro h; simp at h; omega) | (simp only [List.length_cons, List.length_nil, List.length_append, List.length_map, List.length_set, List.length_replicate]; omega) | (intro h; simp [h]; done) | exact ⟨hm1, fun x hx => h12 _ (hm2 x hx)⟩ | exact ⟨hm3, fun x hx => h12 _ (hm4 x hx)⟩ | (constructor <;> omega) | (intro _; constructor <;> omega) | exact (fun h => Cn.core_fit hN.1 hN.2 h) | (simp only [List.length_cons, List.length_nil, List.length_map, List.length_take]; omega) | (intro _; rw [List.length_drop, List.length_take]; exact h12 _ (by omega)) | exact ⟨by omega, hcs, hxl (by omega), hm1, hm2⟩ | exact ⟨by omega, hcs, hxl (by omega)⟩ | exact ⟨by omega, fun x hx => h12 _ (hcs x hx), by rw [List.length_map, List.length_take]; exact h12 _ (by omega)⟩ | done
      ·
       refine ap ?_ (ap ?_ (ap ?_ (ap (by exact vcNot) (ap ?_ (ap ?_ (ap ?_ (ap ?_ (ap ?_ (ap (by exact vcNot) (ap ?_ (ap ?_ (ap ?_ (ap ?_ (ap ?_ (ap ?_ (ap (by exact vcNot) (ap ?_ (ap ?_ (ap ?_ (ap ?_ (ap ?_ (ap ?_ (ap ?_ (ap ?_ (ap (by exact vcNot) az))))))))))))))))))))))))) <;>
        first | omega | exact id | exact vcNot | exact vcG | exact vcH | (intro _; omega) | exact (fun _ h => h) | (intro h; simp at h; omega) | (simp only [List.length_cons, List.length_nil, List.length_append, List.length_map, List.length_set, List.length_replicate]; omega) | (intro h; simp [h]; done) | exact ⟨hm1, fun x hx => h12 _ (hm2 x hx)⟩ | exact ⟨hm3, fun x hx => h12 _ (hm4 x hx)⟩ | (constructor <;> omega) | (intro _; constructor <;> omega) | exact (fun h => Cn.core_fit hN.1 hN.2 h) | (simp only [List.length_cons, List.length_nil, List.length_map, List.length_take]; omega) | (intro _; rw [List.length_drop, List.length_take]; exact h12 _ (by omega)) | exact ⟨by omega, hcs, hxl (by omega), hm1, hm2⟩ | exact ⟨by omega, hcs, hxl (by omega)⟩ | exact ⟨by omega, fun x hx => h12 _ (hcs x hx), by rw [List.length_map, List.length_take]; exact h12 _ (by omega)⟩ | done
      ·
       have hq := Cn.ntT (Cn.core_at.symm.trans h3)
       have hr := Cn.chk_e3 (p := p) hc0 hf0 (Cn.core_no (by omega) hq)
       exact Sz hcx [] [6] [63, 11, 1, 2, 3, 9, 27, 28, 29] [700] (Zr (Fr (Fk (Fr (Fr (Fk (Fr (Rv hcx (congrArg AV.int (show 1 = (Cn.chkC N L p core) from (by first | exact hr.symm | (rw [hr, he]; done) | done))) [] rfl))))))))
      ·
       have hq := Cn.ntF (Cn.core_at.symm.trans h3)
       have hxb := Cn.core_bd hN.1 hN.2 hq
       refine Zk (Ft (Tq hcx [(1004, .to 700)] [9] [63, 11] [700] [Fit (-(core.getD i 0)), ((((core.take i).map fun x => -x).length + [(-(core.getD i 0))].length) * 8 ≤ 140737488355328)] ?_ (Fb (Ft (Tq hcx [] [29] [] [] [Fit ((i : Int) + 1)] ?_ (Lr (i + 1) ?_ ?_ (Ex 29 (congrArg AV.int (show ((i : Int) + 1) = ((i + 1) : Int) from (by first | rfl | omega | (simp; done)))) Eb) (Hx 700 (congrArg (fun x => AObj.row 3 (.ints x)) (show (((core.take i).map fun x => -x) ++ [(-(core.getD i 0))]) = ((core.take (i + 1)).map fun x => -x) from (by exact Cn.core_next (by omega)))) Hb)))))))
       ·
        refine ap ?_ (ap ?_ az) <;>
         first | omega | exact id | exact vcNot | exact vcG | exact vcH | (intro _; omega) | exact (fun _ h => h) | (intro h; simp at h; omega) | (simp only [List.length_cons, List.length_nil, List.length_append, List.length_map, List.length_set, List.length_replicate]; omega) | (intro h; simp [h]; done) | exact ⟨hm1, fun x hx => h12 _ (hm2 x hx)⟩ | exact ⟨hm3, fun x hx => h12 _ (hm4 x hx)⟩ | (constructor <;> omega) | (intro _; constructor <;> omega) | exact (fun h => Cn.core_fit hN.1 hN.2 h) | (simp only [List.length_cons, List.length_nil, List.length_map, List.length_take]; omega) | (intro _; rw [List.length_drop, List.length_take]; exact h12 _ (by omega)) | exact ⟨by omega, hcs, hxl (by omega), hm1, hm2⟩ | exact ⟨by omega, hcs, hxl (by omega)⟩ | exact ⟨by omega, fun x hx => h12 _ (hcs x hx), by rw [List.length_map, List.length_take]; exact h12 _ (by omega)⟩ | done
       ·
        refine ap ?_ az
        first | omega | exact id | exact vcNot | exact vcG | exact vcH | (intro _; omega) | exact (fun _ h => h) | (intro h; simp at h; omega) | (simp only [List.length_cons, List.length_nil, List.length_append, List.length_map, List.length_set, List.length_replicate]; omega) | (intro h; simp [h]; done) | exact ⟨hm1, fun x hx => h12 _ (hm2 x hx)⟩ | exact ⟨hm3, fun x hx => h12 _ (hm4 x hx)⟩ | (constructor <;> omega) | (intro _; constructor <;> omega) | exact (fun h => Cn.core_fit hN.1 hN.2 h) | (simp only [List.length_cons, List.length_nil, List.length_map, List.length_take]; omega) | (intro _; rw [List.length_drop, List.length_take]; exact h12 _ (by omega)) | exact ⟨by omega, hcs, hxl (by omega), hm1, hm2⟩ | exact ⟨by omega, hcs, hxl (by omega)⟩ | exact ⟨by omega, fun x hx => h12 _ (hcs x hx), by rw [List.length_map, List.length_take]; exact h12 _ (by omega)⟩ | done
       ·
        exact ⟨by omega, fun j hj => by rcases (by omega : j < i ∨ j = i) with h | rfl; exact hcok j h; exact hq⟩
       ·
        show core.length - (i + 1) < core.length - i
        omega
     ·
      have hco := Cn.core_yes (n := i) (by omega) hcok
      refine Ze (Fe (Fe (Fs (Ft (Sz hcx [(1000, .to 612)] [12] [30, 2, 27, 28, 29] [] (Sz hcx [(1001, .to 613)] [13] [] [] (Zs (Zv 612 0 701 23 (.intss []) (Tz hcx [(1000, .to 271)] [14] [13, 3] [] (Ft (Zs (Sz hcx [] [76, 77, 78] [1] [] (Zb (Zn [(271, .to 271), (612, .to 612), (613, .to 613), (700, .to 700), (701, .to 701)] [9, 12, 14, 76, 77, 78] (Lp (X := Nat × List (List Int)) (fun x0 => x0.1 ≤ p.length ∧ Cn.runC L [] (p.take x0.1) = some x0.2 ∧ x0.2.length ≤ x0.1 ∧ ∀ x ∈ x0.2, x.length ≤ 1000000000000) (fun x0 => ([(9, .row 700), (12, .loc 612 0), (14, .row 271), (76, .lines p), (77, .int (p.length : Int)), (78, .int (x0.1 : Int))], [(271, .mfun [1, 2, 3] [.clo 46 [.loc 613 0, .pto [.int N, .ls (.intss L)]], .clo 49 [.loc 612 0, .loc 613 0], .clo 50 [.loc 612 0]]), (612, .box [.row 701]), (613, .box [.clo 45 [.loc 612 0]]), (700, .row 3 (.ints ((core.take i).map fun x => -x))), (701, .row 23 (.intss x0.2))])) (fun x0 => p.length - x0.1) (0, ([] : List (List Int))) ?_ (Ex 78 (congrArg AV.int (show 0 = (0 : Int) from (by first | rfl | omega | (simp; done)))) Eb) Hb fun ⟨k, cs⟩ hI => ?_)))))))))))))))
      ·
       try dsimp only
       exact ⟨Nat.zero_le _, rfl, Nat.le_refl _, fun x hx => by cases hx⟩
      ·
       try dsimp only at hI
       obtain ⟨hi, hrun, hcl, hcs⟩ := hI
       have hki : k < p.length → _ := fun h => Cn.line_kind hf0 (i := k) h
       have hxl : k < p.length → _ := fun h => hm4 _ (Cn.getD_memL (d := (0, [])) (k := k) h)
       refine Sz hcx [] [79] [] [] (Zs (Zj (p := ((k : Int) < (p.length : Int))) (fun h4 => ?_) fun h4 => ?_))
       ·
        refine Zk (Ft (Zs (Zb (Sq hcx [(1002, .to 616)] [16] [79] [] [((0 : Int) ≤ (k : Int) ∧ (k : Int) < (p.length : Int))] ?_ (Zs (Zy [(16, .loc 616 0), (9, .row 700), (12, .loc 612 0), (14, .row 271), (76, .lines p), (77, .int (p.length : Int)), (78, .int (k : Int))] [(616, .box [.int ((p.getD k (0, [])).1), .ints ((p.getD k (0, [])).2)]), (271, .mfun [1, 2, 3] [.clo 46 [.loc 613 0, .pto [.int N, .ls (.intss L)]], .clo 49 [.loc 612 0, .loc 613 0], .clo 50 [.loc 612 0]]), (612, .box [.row 701]), (613, .box [.clo 45 [.loc 612 0]]), (700, .row 3 (.ints ((core.take i).map fun x => -x))), (701, .row 23 (.intss cs))] ?_))))))
        ·
         refine ap ?_ az
         first | omega | exact id | exact vcNot | exact vcG | exact vcH | (intro _; omega) | exact (fun _ h => h) | (intro h; simp at h; omega) | (simp only [List.length_cons, List.length_nil, List.length_append, List.length_map, List.length_set, List.length_replicate]; omega) | (intro h; simp [h]; done) | exact ⟨hm1, fun x hx => h12 _ (hm2 x hx)⟩ | exact ⟨hm3, fun x hx => h12 _ (hm4 x hx)⟩ | (constructor <;> omega) | (intro _; constructor <;> omega) | exact (fun h => Cn.core_fit hN.1 hN.2 h) | (simp only [List.length_cons, List.length_nil, List.length_map, List.length_take]; omega) | (intro _; rw [List.length_drop, List.length_take]; exact h12 _ (by omega)) | exact ⟨by omega, hcs, hxl (by omega), hm1, hm2⟩ | exact ⟨by omega, hcs, hxl (by omega)⟩ | exact ⟨by omega, fun x hx => h12 _ (hcs x hx), by rw [List.length_map, List.length_take]; exact h12 _ (by omega)⟩ | done
        rcases ((show _ from Cn.line_three hf0 (by omega)) : (p.getD k (0, [])).1 = 1 ∨ (p.getD k (0, [])).1 = 2 ∨ (p.getD k (0, [])).1 = 3) with hk | hk | hk
        ·
         rw [hk]
         refine Zt (Tq hcx [(612, .to 612), (613, .to 613), (1006, .to 701)] [89] [16] [616, 701] [(cs.length ≤ 1000000 ∧ (∀ x ∈ cs, x.length ≤ 1000000000000) ∧ ((p.getD k (0, [])).2).length ≤ 1000000000000 ∧ L.length ≤ maxLen ∧ ∀ x ∈ L, x.length ≤ 1000000000000)] ?_ (Ft (Zi (b := !(L.any fun y => Cn.alikeB y ((p.getD k (0, [])).2))) (fun h5 => ?_) fun h5 => ?_)))
         ·
          refine ap ?_ az
          first | omega | exact id | exact vcNot | exact vcG | exact vcH | (intro _; omega) | exact (fun _ h => h) | (intro h; simp at h; omega) | (simp only [List.length_cons, List.length_nil, List.length_append, List.length_map, List.length_set, List.length_replicate]; omega) | (intro h; simp [h]; done) | exact ⟨hm1, fun x hx => h12 _ (hm2 x hx)⟩ | exact ⟨hm3, fun x hx => h12 _ (hm4 x hx)⟩ | (constructor <;> omega) | (intro _; constructor <;> omega) | exact (fun h => Cn.core_fit hN.1 hN.2 h) | (simp only [List.length_cons, List.length_nil, List.length_map, List.length_take]; omega) | (intro _; rw [List.length_drop, List.length_take]; exact h12 _ (by omega)) | exact ⟨by omega, hcs, hxl (by omega), hm1, hm2⟩ | exact ⟨by omega, hcs, hxl (by omega)⟩ | exact ⟨by omega, fun x hx => h12 _ (hcs x hx), by rw [List.length_map, List.length_take]; exact h12 _ (by omega)⟩ | done
         ·
          have hki2 := hki (by omega)
          have hq := Cn.ntT h5
          have hok : Cn.okC L cs (p.getD k (0, [])) = false := by first | (rw [Cn.ok_1 hk]; exact hq) | (rw [Cn.ok_2 hk]; exact hq) | (rw [Cn.ok_3 hk]; exact hq)
          have hr := (Cn.chk_e4 hc0 hf0 hco).trans (congrArg (Cn.endC core) (Cn.run_stop (by omega) hrun hki2.1 hki2.2 hok))
          exact Sz hcx [] [6] [89, 9, 12, 14, 76, 77, 78] [612, 613, 701, 271, 700] (Zr (Fk (Fr (Fr (Fk (Fr (Rv hcx (congrArg AV.int (show 250 = (Cn.chkC N L p core) from (by first | exact hr.symm | (rw [hr, he]; done) | done))) [] rfl)))))))
         ·
          have hq := Cn.ntF h5
          have hok : Cn.okC L cs (p.getD k (0, [])) = true := by first | (rw [Cn.ok_1 hk]; exact hq) | (rw [Cn.ok_2 hk]; exact hq) | (rw [Cn.ok_3 hk]; exact hq)
          refine Zk (Fb (Ft (Tq hcx [] [78] [89] [] [Fit ((k : Int) + 1)] ?_ (Fn [(271, .to 271), (612, .to 612), (613, .to 613), (700, .to 700), (701, .to 701)] [9, 12, 14, 76, 77, 78] (Lr (k + 1, (Cn.nextC cs (p.getD k (0, [])))) ?_ ?_ (Ex 78 (congrArg AV.int (show ((k : Int) + 1) = ((k + 1) : Int) from (by first | rfl | omega | (simp; done)))) Eb) (Hx 701 (congrArg (fun x => AObj.row 23 (.intss x)) (show (cs ++ [((p.getD k (0, [])).2)]) = (Cn.nextC cs (p.getD k (0, []))) from (by first | exact Cn.next_1 (by omega) | exact Cn.next_3 hk))) Hb))))))
          ·
           refine ap ?_ az
           first | omega | exact id | exact vcNot | exact vcG | exact vcH | (intro _; omega) | exact (fun _ h => h) | (intro h; simp at h; omega) | (simp only [List.length_cons, List.length_nil, List.length_append, List.length_map, List.length_set, List.length_replicate]; omega) | (intro h; simp [h]; done) | exact ⟨hm1, fun x hx => h12 _ (hm2 x hx)⟩ | exact ⟨hm3, fun x hx => h12 _ (hm4 x hx)⟩ | (constructor <;> omega) | (intro _; constructor <;> omega) | exact (fun h => Cn.core_fit hN.1 hN.2 h) | (simp only [List.length_cons, List.length_nil, List.length_map, List.length_take]; omega) | (intro _; rw [List.length_drop, List.length_take]; exact h12 _ (by omega)) | exact ⟨by omega, hcs, hxl (by omega), hm1, hm2⟩ | exact ⟨by omega, hcs, hxl (by omega)⟩ | exact ⟨by omega, fun x hx => h12 _ (hcs x hx), by rw [List.length_map, List.length_take]; exact h12 _ (by omega)⟩ | done
          ·
           try dsimp only
           (have h8 := Cn.next_len cs (p.getD k (0, [])); exact ⟨by omega, Cn.run_next (by omega) hrun (hki (by omega)).1 (hki (by omega)).2 hok, by omega, fun x hx => by rcases Cn.next_mem hx with h | h; exact hcs x h; rw [h]; exact hxl (by omega)⟩)
          ·
           show p.length - (k + 1) < p.length - k
           omega
        ·
         rw [hk]
         refine Zt (Tq hcx [(612, .to 612), (613, .to 613), (1006, .to 701)] [89] [16] [616, 701] [(cs.length ≤ 1000000 ∧ (∀ x ∈ cs, x.length ≤ 1000000000000) ∧ ((p.getD k (0, [])).2).length ≤ 1000000000000)] ?_ (Ft (Zi (b := !(Cn.flwV cs ((p.getD k (0, [])).2))) (fun h6 => ?_) fun h6 => ?_)))
         ·
          refine ap ?_ az
          first | omega | exact id | exact vcNot | exact vcG | exact vcH | (intro _; omega) | exact (fun _ h => h) | (intro h; simp at h; omega) | (simp only [List.length_cons, List.length_nil, List.length_append, List.length_map, List.length_set, List.length_replicate]; omega) | (intro h; simp [h]; done) | exact ⟨hm1, fun x hx => h12 _ (hm2 x hx)⟩ | exact ⟨hm3, fun x hx => h12 _ (hm4 x hx)⟩ | (constructor <;> omega) | (intro _; constructor <;> omega) | exact (fun h => Cn.core_fit hN.1 hN.2 h) | (simp only [List.length_cons, List.length_nil, List.length_map, List.length_take]; omega) | (intro _; rw [List.length_drop, List.length_take]; exact h12 _ (by omega)) | exact ⟨by omega, hcs, hxl (by omega), hm1, hm2⟩ | exact ⟨by omega, hcs, hxl (by omega)⟩ | exact ⟨by omega, fun x hx => h12 _ (hcs x hx), by rw [List.length_map, List.length_take]; exact h12 _ (by omega)⟩ | done
         ·
          have hki2 := hki (by omega)
          have hq := Cn.ntT h6
          have hok : Cn.okC L cs (p.getD k (0, [])) = false := by first | (rw [Cn.ok_1 hk]; exact hq) | (rw [Cn.ok_2 hk]; exact hq) | (rw [Cn.ok_3 hk]; exact hq)
          have hr := (Cn.chk_e4 hc0 hf0 hco).trans (congrArg (Cn.endC core) (Cn.run_stop (by omega) hrun hki2.1 hki2.2 hok))
          exact Sz hcx [] [6] [89, 9, 12, 14, 76, 77, 78] [612, 613, 701, 271, 700] (Zr (Fk (Fr (Fr (Fk (Fr (Rv hcx (congrArg AV.int (show 250 = (Cn.chkC N L p core) from (by first | exact hr.symm | (rw [hr, he]; done) | done))) [] rfl)))))))
         ·
          have hq := Cn.ntF h6
          have hok : Cn.okC L cs (p.getD k (0, [])) = true := by first | (rw [Cn.ok_1 hk]; exact hq) | (rw [Cn.ok_2 hk]; exact hq) | (rw [Cn.ok_3 hk]; exact hq)
          refine Zk (Fb (Ft (Tq hcx [] [78] [89] [] [Fit ((k : Int) + 1)] ?_ (Fn [(271, .to 271), (612, .to 612), (613, .to 613), (700, .to 700), (701, .to 701)] [9, 12, 14, 76, 77, 78] (Lr (k + 1, (Cn.nextC cs (p.getD k (0, [])))) ?_ ?_ (Ex 78 (congrArg AV.int (show ((k : Int) + 1) = ((k + 1) : Int) from (by first | rfl | omega | (simp; done)))) Eb) (Hx 701 (congrArg (fun x => AObj.row 23 (.intss x)) (show (cs ++ [((p.getD k (0, [])).2)]) = (Cn.nextC cs (p.getD k (0, []))) from (by first | exact Cn.next_1 (by omega) | exact Cn.next_3 hk))) Hb))))))
          ·
           refine ap ?_ az
           first | omega | exact id | exact vcNot | exact vcG | exact vcH | (intro _; omega) | exact (fun _ h => h) | (intro h; simp at h; omega) | (simp only [List.length_cons, List.length_nil, List.length_append, List.length_map, List.length_set, List.length_replicate]; omega) | (intro h; simp [h]; done) | exact ⟨hm1, fun x hx => h12 _ (hm2 x hx)⟩ | exact ⟨hm3, fun x hx => h12 _ (hm4 x hx)⟩ | (constructor <;> omega) | (intro _; constructor <;> omega) | exact (fun h => Cn.core_fit hN.1 hN.2 h) | (simp only [List.length_cons, List.length_nil, List.length_map, List.length_take]; omega) | (intro _; rw [List.length_drop, List.length_take]; exact h12 _ (by omega)) | exact ⟨by omega, hcs, hxl (by omega), hm1, hm2⟩ | exact ⟨by omega, hcs, hxl (by omega)⟩ | exact ⟨by omega, fun x hx => h12 _ (hcs x hx), by rw [List.length_map, List.length_take]; exact h12 _ (by omega)⟩ | done
          ·
           try dsimp only
           (have h8 := Cn.next_len cs (p.getD k (0, [])); exact ⟨by omega, Cn.run_next (by omega) hrun (hki (by omega)).1 (hki (by omega)).2 hok, by omega, fun x hx => by rcases Cn.next_mem hx with h | h; exact hcs x h; rw [h]; exact hxl (by omega)⟩)
          ·
           show p.length - (k + 1) < p.length - k
           omega
        ·
         rw [hk]
         refine Zt (Tq hcx [(612, .to 612), (1006, .to 701)] [89] [16] [616, 701] [(cs.length ≤ 1000000 ∧ (∀ x ∈ cs, x.length ≤ 1000000000000) ∧ ((p.getD k (0, [])).2).length ≤ 1000000000000)] ?_ (Ft (Zi (b := !(decide (0 ≤ Cn.idxF (fun y => Cn.alikeB y ((p.getD k (0, [])).2)) cs))) (fun h7 => ?_) fun h7 => ?_)))
         ·
          refine ap ?_ az
          first | omega | exact id | exact vcNot | exact vcG | exact vcH | (intro _; omega) | exact (fun _ h => h) | (intro h; simp at h; omega) | (simp only [List.length_cons, List.length_nil, List.length_append, List.length_map, List.length_set, List.length_replicate]; omega) | (intro h; simp [h]; done) | exact ⟨hm1, fun x hx => h12 _ (hm2 x hx)⟩ | exact ⟨hm3, fun x hx => h12 _ (hm4 x hx)⟩ | (constructor <;> omega) | (intro _; constructor <;> omega) | exact (fun h => Cn.core_fit hN.1 hN.2 h) | (simp only [List.length_cons, List.length_nil, List.length_map, List.length_take]; omega) | (intro _; rw [List.length_drop, List.length_take]; exact h12 _ (by omega)) | exact ⟨by omega, hcs, hxl (by omega), hm1, hm2⟩ | exact ⟨by omega, hcs, hxl (by omega)⟩ | exact ⟨by omega, fun x hx => h12 _ (hcs x hx), by rw [List.length_map, List.length_take]; exact h12 _ (by omega)⟩ | done
         ·
          have hki2 := hki (by omega)
          have hq := Cn.ntT h7
          have hok : Cn.okC L cs (p.getD k (0, [])) = false := by first | (rw [Cn.ok_1 hk]; exact hq) | (rw [Cn.ok_2 hk]; exact hq) | (rw [Cn.ok_3 hk]; exact hq)
          have hr := (Cn.chk_e4 hc0 hf0 hco).trans (congrArg (Cn.endC core) (Cn.run_stop (by omega) hrun hki2.1 hki2.2 hok))
          exact Sz hcx [] [6] [89, 9, 12, 14, 76, 77, 78] [612, 701, 271, 613, 700] (Zr (Fk (Fr (Fr (Fk (Fr (Rv hcx (congrArg AV.int (show 250 = (Cn.chkC N L p core) from (by first | exact hr.symm | (rw [hr, he]; done) | done))) [] rfl)))))))
         ·
          have hq := Cn.ntF h7
          have hok : Cn.okC L cs (p.getD k (0, [])) = true := by first | (rw [Cn.ok_1 hk]; exact hq) | (rw [Cn.ok_2 hk]; exact hq) | (rw [Cn.ok_3 hk]; exact hq)
          refine Zk (Fb (Ft (Tq hcx [] [78] [89] [] [Fit ((k : Int) + 1)] ?_ (Fn [(271, .to 271), (612, .to 612), (613, .to 613), (700, .to 700), (701, .to 701)] [9, 12, 14, 76, 77, 78] (Lr (k + 1, (Cn.nextC cs (p.getD k (0, [])))) ?_ ?_ (Ex 78 (congrArg AV.int (show ((k : Int) + 1) = ((k + 1) : Int) from (by first | rfl | omega | (simp; done)))) Eb) (Hx 701 (congrArg (fun x => AObj.row 23 (.intss x)) (show (Cn.dropC cs ((p.getD k (0, [])).2)) = (Cn.nextC cs (p.getD k (0, []))) from (by first | exact Cn.next_1 (by omega) | exact Cn.next_3 hk))) Hb))))))
          ·
           refine ap ?_ az
           first | omega | exact id | exact vcNot | exact vcG | exact vcH | (intro _; omega) | exact (fun _ h => h) | (intro h; simp at h; omega) | (simp only [List.length_cons, List.length_nil, List.length_append, List.length_map, List.length_set, List.length_replicate]; omega) | (intro h; simp [h]; done) | exact ⟨hm1, fun x hx => h12 _ (hm2 x hx)⟩ | exact ⟨hm3, fun x hx => h12 _ (hm4 x hx)⟩ | (constructor <;> omega) | (intro _; constructor <;> omega) | exact (fun h => Cn.core_fit hN.1 hN.2 h) | (simp only [List.length_cons, List.length_nil, List.length_map, List.length_take]; omega) | (intro _; rw [List.length_drop, List.length_take]; exact h12 _ (by omega)) | exact ⟨by omega, hcs, hxl (by omega), hm1, hm2⟩ | exact ⟨by omega, hcs, hxl (by omega)⟩ | exact ⟨by omega, fun x hx => h12 _ (hcs x hx), by rw [List.length_map, List.length_take]; exact h12 _ (by omega)⟩ | done
          ·
           try dsimp only
           (have h8 := Cn.next_len cs (p.getD k (0, [])); exact ⟨by omega, Cn.run_next (by omega) hrun (hki (by omega)).1 (hki (by omega)).2 hok, by omega, fun x hx => by rcases Cn.next_mem hx with h | h; exact hcs x h; rw [h]; exact hxl (by omega)⟩)
          ·
           show p.length - (k + 1) < p.length - k
           omega
       ·
        rw [show k = p.length by omega, List.take_length] at hrun
        refine Ze (Fe (Fe (Fs (Ft (Zs (Zs (Zn [(271, .to 271), (612, .to 612), (613, .to 613), (700, .frz), (701, .frz)] [79, 9, 12, 14, 76, 77, 78] (Tq hcx [] [94] [79, 9, 12, 14, 76, 77, 78] [271, 612, 613] [(cs.length ≤ 1000000000 ∧ (∀ x ∈ cs, x.length ≤ maxLen) ∧ ((core.take i).map fun x => -x).length ≤ maxLen)] ?_ (Ft (Zi (b := !(Cn.flwV cs ((core.take i).map fun x => -x))) (fun h8 => ?_) fun h8 => ?_))))))))))
        ·
         refine ap ?_ az
         first | omega | exact id | exact vcNot | exact vcG | exact vcH | (intro _; omega) | exact (fun _ h => h) | (intro h; simp at h; omega) | (simp only [List.length_cons, List.length_nil, List.length_append, List.length_map, List.length_set, List.length_replicate]; omega) | (intro h; simp [h]; done) | exact ⟨hm1, fun x hx => h12 _ (hm2 x hx)⟩ | exact ⟨hm3, fun x hx => h12 _ (hm4 x hx)⟩ | (constructor <;> omega) | (intro _; constructor <;> omega) | exact (fun h => Cn.core_fit hN.1 hN.2 h) | (simp only [List.length_cons, List.length_nil, List.length_map, List.length_take]; omega) | (intro _; rw [List.length_drop, List.length_take]; exact h12 _ (by omega)) | exact ⟨by omega, hcs, hxl (by omega), hm1, hm2⟩ | exact ⟨by omega, hcs, hxl (by omega)⟩ | exact ⟨by omega, fun x hx => h12 _ (hcs x hx), by rw [List.length_map, List.length_take]; exact h12 _ (by omega)⟩ | done
        ·
         have hq := Cn.ntT h8
         rw [show i = core.length by omega, List.take_length] at hq
         have hr := (Cn.chk_e4 hc0 hf0 hco).trans (congrArg (Cn.endC core) hrun)
         have he : Cn.endC core (some cs) = 250 := by unfold Cn.endC; exact if_neg (by rw [hq]; simp)
         exact Sz hcx [] [6] [94] [] (Zr (Fr (Rv hcx (congrArg AV.int (show 250 = (Cn.chkC N L p core) from (by first | exact hr.symm | (rw [hr, he]; done) | done))) [] rfl)))
        ·
         have hq := Cn.ntF h8
         rw [show i = core.length by omega, List.take_length] at hq
         have hr := (Cn.chk_e4 hc0 hf0 hco).trans (congrArg (Cn.endC core) hrun)
         have he : Cn.endC core (some cs) = 0 := by unfold Cn.endC; exact if_pos hq
         exact Zk (Ft (Sz hcx [] [6] [94] [] (Zr (Rv hcx (congrArg AV.int (show 0 = (Cn.chkC N L p core) from (by first | exact hr.symm | (rw [hr, he]; done) | done))) [] rfl))))
 ·
  cases hσ
end Go.Proofs.YtbpbndlgfiammaaGreatDoor.En
