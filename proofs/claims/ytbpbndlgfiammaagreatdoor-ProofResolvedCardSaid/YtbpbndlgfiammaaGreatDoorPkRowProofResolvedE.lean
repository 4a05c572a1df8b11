/- Lemmas and contracts for the row. -/
import Derived.Test.YtbpbndlgfiammaaGreatDoorPkRowProofResolvedC
import Derived.Test.YtbpbndlgfiammaaGreatDoorPkRowProofResolvedD
import Derived.Shelf.Strings.Split
import Derived.Shelf.Strings.Search3
import Derived.Shelf.Strconv.AtoiAll
import Derived.Shelf.Strconv.Itoa4
import Derived.Shelf.Strconv.AppendInt10
import Derived.Shelf.Bytes.SlCut
import Derived.Ground.NamesProg
import Derived.Ground.SlbtProg
import Derived.Test.YtbpbndlgfiammaaGreatDoorProg
import Derived.Lib.DecodeNEq
import Derived.Lib.ItoaLen
import Derived.Lib.UnsafeStr
import Derived.Laws.BytesArg
import Derived.Lib.Bytes
import Derived.Lib.RowBridge
import Derived.Lib.AtoiAll
import Derived.Lib.CountLaws
import Derived.Lib.SplitLaws
import Derived.Lib.BufferKept
import Derived.Lib.AppendIntMem
set_option linter.unusedVariables false
set_option linter.unusedSimpArgs false
set_option linter.unnecessarySimpa false
namespace Go.Proofs.YtbpbndlgfiammaaGreatDoor.En
open Go Go.RowKit
def tyPrf : List (Nat × TD) := [(3, ⟨1, false, [.int .i64 0], [], none, 8, false, 1, 1⟩),
  (4, ⟨1, false, [.bool false], [], none, 1, true, 0, 2⟩),
  (22, ⟨1, false, [.slice none 0 0], [], some 23, 24, false, 0, 0⟩),
  (23, ⟨1, false, [.slice none 0 0], [], some 3, 24, false, 0, 3⟩),
  (28, ⟨2, true, [.int .i64 0, .slice none 0 0], [(0, 3), (1, 22)], none, 32, false, 0, 6⟩),
  (29, ⟨1, false, [.slice none 0 0], [], some 43, 24, false, 0, 0⟩),
  (31, ⟨1, false, [.int .i64 0], [], none, 8, false, 1, 1⟩),
  (43, ⟨2, true, [.int .i64 0, .slice none 0 0], [(0, 3), (1, 23)], none, 32, false, 0, 7⟩),
  (64, ⟨1, false, [.map none], [], none, 8, false, 10, 4⟩),
  (65, ⟨1, false, [.map none], [], none, 8, false, 10, 4⟩),
  (66, ⟨1, false, [.nilFunc], [], none, 8, false, 0, 0⟩),
  (73, ⟨1, false, [.nilFunc], [], none, 8, false, 0, 0⟩),
  (75, ⟨1, false, [.nilFunc], [], none, 8, false, 0, 0⟩),
  (78, ⟨1, false, [.map none], [], none, 8, false, 10, 75⟩),
  (79, ⟨1, false, [.nilFunc], [], none, 8, false, 0, 0⟩),
  (126, ⟨1, false, [.nilFunc], [], none, 8, false, 0, 0⟩)]
theorem tyPrf_ok : AllTy Tryz.prog tyPrf := ⟨⟨by kernel_rfl, by kernel_rfl, by kernel_rfl⟩, ⟨by kernel_rfl, by kernel_rfl, by kernel_rfl⟩, ⟨by kernel_rfl, by kernel_rfl, by kernel_rfl⟩, ⟨by kernel_rfl, by kernel_rfl, by kernel_rfl⟩, ⟨by kernel_rfl, by kernel_rfl, by kernel_rfl⟩, ⟨by kernel_rfl, by kernel_rfl, by kernel_rfl⟩, ⟨by kernel_rfl, by kernel_rfl, by kernel_rfl⟩, ⟨by kernel_rfl, by kernel_rfl, by kernel_rfl⟩, ⟨by kernel_rfl, by kernel_rfl, by kernel_rfl⟩, ⟨by kernel_rfl, by kernel_rfl, by kernel_rfl⟩, ⟨by kernel_rfl, by kernel_rfl, by kernel_rfl⟩, ⟨by kernel_rfl, by kernel_rfl, by kernel_rfl⟩, ⟨by kernel_rfl, by kernel_rfl, by kernel_rfl⟩, ⟨by kernel_rfl, by kernel_rfl, by kernel_rfl⟩, ⟨by kernel_rfl, by kernel_rfl, by kernel_rfl⟩, ⟨by kernel_rfl, by kernel_rfl, by kernel_rfl⟩, trivial⟩
def cx_pLit : Cx := ⟨tyPrf, [], true⟩
theorem cx_pLit_ok : CxOk Tryz.prog cx_pLit := cx_ok tyPrf_ok trivial
def pLit_σ : CtF
  | [.im (.val (.int .i64 x))], [] => some (True, .bool (Cn.mayP x 65536), [])
  | _, _ => none
theorem pLit_sound : Sound Tryz.prog 36 pLit_σ := by
 refine Sw (cx := cx_pLit) Tryz.f36 Tryz.func36 ?_
 intro wW wO wβ G0 args os p r outs hσ hp
 have hcx := cx_pLit_ok
 unfold pLit_σ at hσ
 split at hσ
 ·
  rename_i x
  cases hσ
  refine ⟨by kernel_rfl, ?_⟩
  refine Sz hcx [] [] [] [] (Sq hcx [] [2] [0] [] [((x != 0) = true → ((x != 0) = true)), ((x != 0) = true → (x != 0) = true), (((x != 0) && (decide ((-65536) ≤ x))) = true → (((x != 0) && (decide ((-65536) ≤ x))) = true)), (((x != 0) && (decide ((-65536) ≤ x))) = true → ((x != 0) && (decide ((-65536) ≤ x))) = true)] ?_ (Zr (Ru hcx [])))
  ·
   refine ap ?_ (ap (by exact id) (ap ?_ (ap (by exact id) az))) <;>
    first | omega | exact id | exact vcNot | exact vcG | exact vcH | (intro _; omega) | exact (fun _ h => h) | (intro h; simp at h; omega) | (simp only [List.length_cons, List.length_nil, List.length_append, List.length_map, List.length_set, List.length_replicate]; omega) | (intro h; simp [h]; done)
 ·
  cases hσ
def cx_pLook : Cx := ⟨tyPrf, [(36, pLit_σ)], true⟩
theorem cx_pLook_ok : CxOk Tryz.prog cx_pLook := cx_ok tyPrf_ok ⟨pLit_sound, trivial⟩
def pLook_σ : CtF
  | [.row 0, .im (.ls (.ints l))], [.mset ks] => some (l.length ≤ maxLen, .tup [.int ((Cn.lookV (Cn.hasK ks) l).1), .bool ((Cn.lookV (Cn.hasK ks) l).2)], [some (.mset ks)])
  | _, _ => none
theorem pLook_sound : Sound Tryz.prog 38 pLook_σ := by
 refine Sw (cx := cx_pLook) Tryz.f38 Tryz.func38 ?_
 intro wW wO wβ G0 args os p r outs hσ hp
 have hcx := cx_pLook_ok
 unfold pLook_σ at hσ
 split at hσ
 ·
  rename_i l ks
  cases hσ
  refine ⟨by kernel_rfl, ?_⟩
  have hm1 := hp
  unfold maxLen at hm1
  refine Sz hcx [] [4] [] [] (Sz hcx [(1000, .to 209)] [6] [] [] (Zs (Sz hcx [] [10, 11, 12] [1] [] (Zb (Zn [(0, .to 0), (209, .to 209)] [0, 4, 6, 10, 11, 12] (Lp (X := Nat) (fun x0 => x0 ≤ l.length ∧ Cn.noT (Cn.hasK ks) (l.take x0)) (fun x0 => ([(0, .row 0), (4, .int ((Cn.lkS (Cn.hasK ks) (l.take x0)).2)), (6, .row 209), (10, .ints l), (11, .int (l.length : Int)), (12, .int (x0 : Int))], [(0, .mset ks), (209, .mset ((Cn.lkS (Cn.hasK ks) (l.take x0)).1))])) (fun x0 => l.length - x0) (0) ?_ (Ex 12 (congrArg AV.int (show 0 = (0 : Int) from (by first | rfl | omega | (simp; done)))) Eb) Hb fun i hI => ?_))))))
  ·
   exact ⟨Nat.zero_le _, Cn.noT_0 _ _⟩
  ·
   try dsimp only at hI
   obtain ⟨hk, hno⟩ := hI
   have hol := Cn.lkS_len (Cn.hasK ks) l i
   refine Sz hcx [] [13] [] [] (Zs (Zj (p := ((i : Int) < (l.length : Int))) (fun h0 => ?_) fun h0 => ?_))
   ·
    refine Zk (Ft (Zs (Zb (Sq hcx [] [8] [13] [] [((0 : Int) ≤ (i : Int) ∧ (i : Int) < (l.length : Int))] ?_ (Zb (Sq hcx [] [19] [] [] [(True), ((!(!(Cn.mayP (l.getD i 0) 65536))) = true → ((!(!(Cn.mayP (l.getD i 0) 65536))) = true)), ((!(!(Cn.mayP (l.getD i 0) 65536))) = true → Fit (-(l.getD i 0))), ((!(!(Cn.mayP (l.getD i 0) 65536))) = true → ((!(!(Cn.mayP (l.getD i 0) 65536))) = true)), ((!(!(Cn.mayP (l.getD i 0) 65536))) = true → ((!(!(Cn.mayP (l.getD i 0) 65536))) = true)), ((!(Cn.mayP (l.getD i 0) 65536)) = false → (!(!(Cn.mayP (l.getD i 0) 65536))) = true)] ?_ (Zi (b := (!(Cn.mayP (l.getD i 0) 65536)) || (ks.contains (-(l.getD i 0)))) (fun h1 => ?_) fun h1 => ?_)))))))
    ·
     refine ap ?_ az
     first | omega | exact id | exact vcNot | exact vcG | exact vcH | (intro _; omega) | exact (fun _ h => h) | (intro h; simp at h; omega) | (simp only [List.length_cons, List.length_nil, List.length_append, List.length_map, List.length_set, List.length_replicate]; omega) | (intro h; simp [h]; done) | exact rfl | exact True.intro | exact Cn.mayN | (unfold maxLen; omega) | done
    ·
     refine ap ?_ (ap ?_ (ap ?_ (ap ?_ (ap ?_ (ap (by exact vcNot) az))))) <;>
      first | omega | exact id | exact vcNot | exact vcG | exact vcH | (intro _; omega) | exact (fun _ h => h) | (intro h; simp at h; omega) | (simp only [List.length_cons, List.length_nil, List.length_append, List.length_map, List.length_set, List.length_replicate]; omega) | (intro h; simp [h]; done) | exact rfl | exact True.intro | exact Cn.mayN | (unfold maxLen; omega) | done
    ·
     have hq : ((!(Cn.mayP (l.getD i 0) 65536)) || (Cn.hasK ks) (-(l.getD i 0))) = true := h1
     refine Zk (Fb (Fb (Ft (Tq hcx [] [12] [19, 8] [] [Fit ((i : Int) + 1)] ?_ (Lr (i + 1) ?_ ?_ (Ex 4 (congrArg AV.int (show (Cn.lkS (Cn.hasK ks) (l.take i)).2 = (Cn.lkS (Cn.hasK ks) (l.take (i + 1))).2 from (by first | (rw [Cn.lk_skip (by omega) hq]; done) | (rw [Cn.lk_add (by omega) hq]; done)))) (Ex 12 (congrArg AV.int (show ((i : Int) + 1) = ((i + 1) : Int) from (by first | rfl | omega | (simp; done)))) Eb)) (Hx 209 (congrArg AObj.mset (show (Cn.lkS (Cn.hasK ks) (l.take i)).1 = (Cn.lkS (Cn.hasK ks) (l.take (i + 1))).1 from (by first | (rw [Cn.lk_skip (by omega) hq]; done) | (rw [Cn.lk_add (by omega) hq]; done)))) Hb))))))
     ·
      refine ap ?_ az
      first | omega | exact id | exact vcNot | exact vcG | exact vcH | (intro _; omega) | exact (fun _ h => h) | (intro h; simp at h; omega) | (simp only [List.length_cons, List.length_nil, List.length_append, List.length_map, List.length_set, List.length_replicate]; omega) | (intro h; simp [h]; done) | exact rfl | exact True.intro | exact Cn.mayN | (unfold maxLen; omega) | done
     ·
      try dsimp only
      first | exact ⟨by omega, Cn.noT_skip (by omega) hq hno⟩ | exact ⟨by omega, Cn.noT_add (by omega) hu hno⟩
     ·
      show l.length - (i + 1) < l.length - i
      omega
    ·
     have hq : ((!(Cn.mayP (l.getD i 0) 65536)) || (Cn.hasK ks) (-(l.getD i 0))) = false := h1
     refine Sz hcx [] [29] [19, 4] [] (Zi (b := ks.contains (l.getD i 0)) (fun h2 => ?_) fun h2 => ?_)
     ·
      have hu : (Cn.hasK ks) (l.getD i 0) = true := h2
      have hlk := Cn.look_true (by omega) hq hu
      exact Sz hcx [] [4, 5] [29, 8, 0, 6, 10, 11, 12] [209] (Zr (Fk (Fk (Fr (Fr (Fk (Fr (Rv hcx (congrArg AV.tup (consE (congrArg AV.int (show 0 = (Cn.lookV (Cn.hasK ks) l).1 from (by (rw [hlk]; done)))) (consE (congrArg AV.bool (show false = (Cn.lookV (Cn.hasK ks) l).2 from (by (rw [hlk]; done)))) rfl))) [true] rfl))))))))
     ·
      have hu : (Cn.hasK ks) (l.getD i 0) = false := h2
      refine Tq hcx [(209, .to 209)] [4] [29, 8] [] [(true = true)] ?_ (Fb (Fb (Ft (Tq hcx [] [12] [] [] [Fit ((i : Int) + 1)] ?_ (Fn [(0, .to 0), (209, .to 209)] [0, 4, 6, 10, 11, 12] (Lr (i + 1) ?_ ?_ (Ex 4 (congrArg AV.int (show (l.getD i 0) = (Cn.lkS (Cn.hasK ks) (l.take (i + 1))).2 from (by first | (rw [Cn.lk_skip (by omega) hq]; done) | (rw [Cn.lk_add (by omega) hq]; done)))) (Ex 12 (congrArg AV.int (show ((i : Int) + 1) = ((i + 1) : Int) from (by first | rfl | omega | (simp; done)))) Eb)) (Hx 209 (congrArg AObj.mset (show (addK ((Cn.lkS (Cn.hasK ks) (l.take i)).1) (l.getD i 0)) = (Cn.lkS (Cn.hasK ks) (l.take (i + 1))).1 from (by first | (rw [Cn.lk_skip (by omega) hq]; done) | (rw [Cn.lk_add (by omega) hq]; done)))) Hb)))))))
      ·
       refine ap ?_ az
       first | omega | exact id | exact vcNot | exact vcG | exact vcH | (intro _; omega) | exact (fun _ h => h) | (intro h; simp at h; omega) | (simp only [List.length_cons, List.length_nil, List.length_append, List.length_map, List.length_set, List.length_replicate]; omega) | (intro h; simp [h]; done) | exact rfl | exact True.intro | exact Cn.mayN | (unfold maxLen; omega) | done
      ·
       refine ap ?_ az
       first | omega | exact id | exact vcNot | exact vcG | exact vcH | (intro _; omega) | exact (fun _ h => h) | (intro h; simp at h; omega) | (simp only [List.length_cons, List.length_nil, List.length_append, List.length_map, List.length_set, List.length_replicate]; omega) | (intro h; simp [h]; done) | exact rfl | exact True.intro | exact Cn.mayN | (unfold maxLen; omega) | done
      ·
       try dsimp only
       first | exact ⟨by omega, Cn.noT_skip (by omega) hq hno⟩ | exact ⟨by omega, Cn.noT_add (by omega) hu hno⟩
      ·
       show l.length - (i + 1) < l.length - i
       omega
   ·
    refine Ze (Fe (Fe (Fs (Ft (Zs (Sq hcx [] [35] [13, 0, 6, 10, 11, 12] [209] [(((Cn.lkS (Cn.hasK ks) (l.take i)).1).length ≤ maxLen)] ?_ (Zb (Sz hcx [] [36] [] [] (Zu (a := (((Cn.lkS (Cn.hasK ks) (l.take i)).1).length : Int)) (b := 0) (fun h3 => ?_) fun h3 => ?_)))))))))
    ·
     refine ap ?_ az
     first | omega | exact id | exact vcNot | exact vcG | exact vcH | (intro _; omega) | exact (fun _ h => h) | (intro h; simp at h; omega) | (simp only [List.length_cons, List.length_nil, List.length_append, List.length_map, List.length_set, List.length_replicate]; omega) | (intro h; simp [h]; done) | exact rfl | exact True.intro | exact Cn.mayN | (unfold maxLen; omega) | done
    ·
     have hlk := Cn.look_0 (by omega) hno h3
     exact Sz hcx [] [4, 5] [36, 35] [] (Zr (Fk (Fr (Rv hcx (congrArg AV.tup (consE (congrArg AV.int (show 0 = (Cn.lookV (Cn.hasK ks) l).1 from (by (rw [hlk]; done)))) (consE (congrArg AV.bool (show true = (Cn.lookV (Cn.hasK ks) l).2 from (by (rw [hlk]; done)))) rfl))) [true] rfl))))
    ·
     have h36 := h3
     refine Sz hcx [] [38] [36, 35] [] (Zu (a := (((Cn.lkS (Cn.hasK ks) (l.take i)).1).length : Int)) (b := 1) (fun h4 => ?_) fun h4 => ?_)
     ·
      have hlk := Cn.look_1 (by omega) hno h4
      exact Sz hcx [] [4, 5] [38] [] (Zr (Fk (Fr (Rv hcx (congrArg AV.tup (consE (congrArg AV.int (show (Cn.lkS (Cn.hasK ks) (l.take i)).2 = (Cn.lookV (Cn.hasK ks) l).1 from (by (rw [hlk]; done)))) (consE (congrArg AV.bool (show false = (Cn.lookV (Cn.hasK ks) l).2 from (by (rw [hlk]; done)))) rfl))) [true] rfl))))
     ·
      have hlk := Cn.look_2 (by omega) hno h36 h4
      exact Zk (Fb (Ft (Sz hcx [] [4, 5] [38] [] (Zr (Rv hcx (congrArg AV.tup (consE (congrArg AV.int (show 0 = (Cn.lookV (Cn.hasK ks) l).1 from (by (rw [hlk]; done)))) (consE (congrArg AV.bool (show false = (Cn.lookV (Cn.hasK ks) l).2 from (by (rw [hlk]; done)))) rfl))) [true] rfl)))))
 ·
  cases hσ
def cx_pFlw : Cx := ⟨tyPrf, [(36, pLit_σ), (38, (coeF [.id, .ld (.ints [])] pLook_σ)), (37, sCloneL), (39, sDelL)], true⟩
theorem cx_pFlw_ok : CxOk Tryz.prog cx_pFlw := cx_ok tyPrf_ok ⟨pLit_sound, (pLook_sound.coe [.id, .ld (.ints [])] rfl), sCloneL_sound, sDelL_sound, trivial⟩
def pFlw_σ : CtF
  | [.im (.ls (.intss c)), .im (.ls (.ints l))], [] => some (c.length ≤ 1000000000 ∧ (∀ x ∈ c, x.length ≤ maxLen) ∧ l.length ≤ maxLen, .bool (Cn.flwV c l), [])
  | _, _ => none
theorem pFlw_sound : Sound Tryz.prog 14 pFlw_σ := by
 refine Sw (cx := cx_pFlw) Tryz.f14 Tryz.func14 ?_
 intro wW wO wβ G0 args os p r outs hσ hp
 have hcx := cx_pFlw_ok
 unfold pFlw_σ at hσ
 split at hσ
 ·
  rename_i c l
  cases hσ
  refine ⟨by kernel_rfl, ?_⟩
  obtain ⟨hm1, hm2, hm3⟩ := hp
  have hm4 := hm3
  unfold maxLen at hm4
  refine Sz hcx [] [] [] [] ?_
  refine tri_jump (X := List (List Int) × List Int) 0 (fun x0 => Cn.contra l = false ∧ Cn.StepI c l x0.1 x0.2) (fun x0 => [(5, .row 213), (8, .row 231)]) (fun x0 => [(213, .mset x0.2), (231, .row 23 (.intss x0.1))]) (fun x0 => x0.1.length) rfl (fun hrest => ?_) ?_
  ·
   refine Sz hcx [(1000, .to 213)] [5] [] [] (Zs (Sz hcx [] [14, 15, 16] [1] [] (Zb (Lp (X := Nat) (fun x0 => x0 ≤ l.length ∧ Cn.contra (l.take x0) = false) (fun x0 => ([(0, .intss c), (5, .row 213), (14, .ints l), (15, .int (l.length : Int)), (16, .int (x0 : Int))], [(213, .mset (Cn.iniK (l.take x0)))])) (fun x0 => l.length - x0) (0) ?_ (Ex 16 (congrArg AV.int (show 0 = (0 : Int) from (by first | rfl | omega | (simp; done)))) Eb) Hb fun i hI => ?_))))
   ·
    exact ⟨Nat.zero_le _, rfl⟩
   ·
    try dsimp only at hI
    obtain ⟨hk, hno⟩ := hI
    refine Sz hcx [] [17] [] [] (Zs (Zj (p := ((i : Int) < (l.length : Int))) (fun h0 => ?_) fun h0 => ?_))
    ·
     refine Zk (Ft (Zs (Zb (Sq hcx [] [7] [17] [] [((0 : Int) ≤ (i : Int) ∧ (i : Int) < (l.length : Int))] ?_ (Zs (Sq hcx [] [22] [] [] [(True)] ?_ (Zi (b := !(Cn.mayP (l.getD i 0) 65536)) (fun h1 => ?_) fun h1 => ?_)))))))
     ·
      refine ap ?_ az
      first | omega | exact id | exact vcNot | exact vcG | exact vcH | (intro _; omega) | exact (fun _ h => h) | (intro h; simp at h; omega) | (simp only [List.length_cons, List.length_nil, List.length_append, List.length_map, List.length_set, List.length_replicate]; omega) | (intro h; simp [h]; done) | exact rfl | exact True.intro | (constructor <;> omega) | (unfold maxLen; omega) | exact hmm _ (Cn.getD_memL (by omega)) | exact ⟨by omega, by omega, by omega, by omega⟩ | done
     ·
      refine ap ?_ az
      first | omega | exact id | exact vcNot | exact vcG | exact vcH | (intro _; omega) | exact (fun _ h => h) | (intro h; simp at h; omega) | (simp only [List.length_cons, List.length_nil, List.length_append, List.length_map, List.length_set, List.length_replicate]; omega) | (intro h; simp [h]; done) | exact rfl | exact True.intro | (constructor <;> omega) | (unfold maxLen; omega) | exact hmm _ (Cn.getD_memL (by omega)) | exact ⟨by omega, by omega, by omega, by omega⟩ | done
     ·
      have hq : Cn.mayP (l.getD i 0) 65536 = false := Cn.ntT h1
      refine Ze (Fe (Fs (Ft (Tq hcx [] [16] [22, 7] [] [Fit ((i : Int) + 1)] ?_ (Lr (i + 1) ?_ ?_ (Ex 16 (congrArg AV.int (show ((i : Int) + 1) = ((i + 1) : Int) from (by first | rfl | omega | (simp; done)))) Eb) (Hx 213 (congrArg AObj.mset (show (Cn.iniK (l.take i)) = (Cn.iniK (l.take (i + 1))) from (by first | exact (Cn.ini_skip (by omega) hq).symm | exact (Cn.ini_add (by omega) hq).symm))) Hb))))))
      ·
       refine ap ?_ az
       first | omega | exact id | exact vcNot | exact vcG | exact vcH | (intro _; omega) | exact (fun _ h => h) | (intro h; simp at h; omega) | (simp only [List.length_cons, List.length_nil, List.length_append, List.length_map, List.length_set, List.length_replicate]; omega) | (intro h; simp [h]; done) | exact rfl | exact True.intro | (constructor <;> omega) | (unfold maxLen; omega) | exact hmm _ (Cn.getD_memL (by omega)) | exact ⟨by omega, by omega, by omega, by omega⟩ | done
      ·
       try dsimp only
       first | exact ⟨by omega, Cn.contra_skip (by omega) hq hno⟩ | exact ⟨by omega, Cn.contra_add (by omega) hq hu hno⟩
      ·
       show l.length - (i + 1) < l.length - i
       omega
     ·
      have hq : Cn.mayP (l.getD i 0) 65536 = true := Cn.ntF h1
      have hb := Cn.mayP_iff.1 hq
      refine Zk (Ft (Sq hcx [(213, .to 213)] [] [22] [] [Fit (-(l.getD i 0)), (true = true)] ?_ (Sz hcx [] [28] [7] [] (Zi (b := (addK (Cn.iniK (l.take i)) (-(l.getD i 0))).contains (l.getD i 0)) (fun h2 => ?_) fun h2 => ?_))))
      ·
       refine ap ?_ (ap ?_ az) <;>
        first | omega | exact id | exact vcNot | exact vcG | exact vcH | (intro _; omega) | exact (fun _ h => h) | (intro h; simp at h; omega) | (simp only [List.length_cons, List.length_nil, List.length_append, List.length_map, List.length_set, List.length_replicate]; omega) | (intro h; simp [h]; done) | exact rfl | exact True.intro | (constructor <;> omega) | (unfold maxLen; omega) | exact hmm _ (Cn.getD_memL (by omega)) | exact ⟨by omega, by omega, by omega, by omega⟩ | done
      ·
       have hf := Cn.flw_c (c := c) (Cn.contra_hit (by omega) hq h2)
       exact Sz hcx [] [4] [28, 0, 5, 14, 15, 16] [213] (Zr (Fk (Fr (Fr (Fk (Fr (fin_jumpQ_ret (Rv hcx (congrArg AV.bool (show true = (Cn.flwV c l) from (by first | exact hf.symm | exact (Cn.step_false hI hct (fun j hj => hok j (by omega))).symm))) [] rfl))))))))
      ·
       have hu := h2
       refine Zk (Fb (Ft (Tq hcx [] [16] [28] [] [Fit ((i : Int) + 1)] ?_ (Lr (i + 1) ?_ ?_ (Ex 16 (congrArg AV.int (show ((i : Int) + 1) = ((i + 1) : Int) from (by first | rfl | omega | (simp; done)))) Eb) (Hx 213 (congrArg AObj.mset (show (addK (Cn.iniK (l.take i)) (-(l.getD i 0))) = (Cn.iniK (l.take (i + 1))) from (by first | exact (Cn.ini_skip (by omega) hq).symm | exact (Cn.ini_add (by omega) hq).symm))) Hb)))))
       ·
        refine ap ?_ az
        first | omega | exact id | exact vcNot | exact vcG | exact vcH | (intro _; omega) | exact (fun _ h => h) | (intro h; simp at h; omega) | (simp only [List.length_cons, List.length_nil, List.length_append, List.length_map, List.length_set, List.length_replicate]; omega) | (intro h; simp [h]; done) | exact rfl | exact True.intro | (constructor <;> omega) | (unfold maxLen; omega) | exact hmm _ (Cn.getD_memL (by omega)) | exact ⟨by omega, by omega, by omega, by omega⟩ | done
       ·
        try dsimp only
        first | exact ⟨by omega, Cn.contra_skip (by omega) hq hno⟩ | exact ⟨by omega, Cn.contra_add (by omega) hq hu hno⟩
       ·
        show l.length - (i + 1) < l.length - i
        omega
    ·
     refine Ze (Fe (Fe (Fs (Ft (Sq hcx [(1001, .to 231)] [8] [17, 0, 14, 15, 16] [] [(c.length ≤ 1000000000000)] ?_ (Zn [(213, .to 213), (231, .to 231)] [5, 8] (tri_enter (c, (Cn.iniK (l.take i))) hrest ?_ Eb Hb)))))))
     ·
      refine ap ?_ az
      first | omega | exact id | exact vcNot | exact vcG | exact vcH | (intro _; omega) | exact (fun _ h => h) | (intro h; simp at h; omega) | (simp only [List.length_cons, List.length_nil, List.length_append, List.length_map, List.length_set, List.length_replicate]; omega) | (intro h; simp [h]; done) | exact rfl | exact True.intro | (constructor <;> omega) | (unfold maxLen; omega) | exact hmm _ (Cn.getD_memL (by omega)) | exact ⟨by omega, by omega, by omega, by omega⟩ | done
     ·
      try dsimp only
      (rw [show i = l.length by omega, List.take_length] at hno ⊢; exact ⟨hno, Cn.step_init hno⟩)
  ·
   intro ⟨lf, ks⟩ hI
   replace hI : Cn.contra l = false ∧ Cn.StepI c l lf ks := hI
   change Tri _ [(5, .row 213), (8, .row 231)] [(213, .mset ks), (231, .row 23 (.intss lf))] _ _
   obtain ⟨hct, hI⟩ := hI
   have hml := hI.1
   have hmm := fun x hx => hm2 x (hI.2.1 x hx)
   refine Zt (Zs (Sz hcx [] [32, 33, 34] [] [] (Zb (Lp (X := Nat) (fun x0 => x0 ≤ lf.length ∧ ∀ j, j < x0 → Cn.lookV (Cn.hasK ks) (lf.getD j []) = (0, false)) (fun x0 => ([(5, .row 213), (8, .row 231), (32, .row 231), (33, .int (lf.length : Int)), (34, .int (x0 : Int))], [(213, .mset ks), (231, .row 23 (.intss lf))])) (fun x0 => lf.length - x0) (0) ?_ (Ex 34 (congrArg AV.int (show 0 = (0 : Int) from (by first | rfl | omega | (simp; done)))) Eb) Hb fun i hI => ?_))))
   ·
    exact ⟨Nat.zero_le _, fun j hj => by omega⟩
   ·
    try dsimp only at hI
    obtain ⟨hk, hok⟩ := hI
    refine Sz hcx [] [35] [] [] (Zs (Zj (p := ((i : Int) < (lf.length : Int))) (fun h3 => ?_) fun h3 => ?_))
    ·
     refine Zk (Ft (Zs (Zb (Sq hcx [] [9, 10] [35] [] [((0 : Int) ≤ (i : Int) ∧ (i : Int) < (lf.length : Int)), (i < lf.length)] ?_ (Sq hcx [(213, .to 213)] [11, 12] [10] [] [((lf.getD i []).length ≤ maxLen)] ?_ (Zb (Sz hcx [] [45] [12] [] (Zi (b := (Cn.lookV (Cn.hasK ks) (lf.getD i [])).2) (fun h4 => ?_) fun h4 => ?_))))))))
     ·
      refine ap ?_ (ap ?_ az) <;>
       first | omega | exact id | exact vcNot | exact vcG | exact vcH | (intro _; omega) | exact (fun _ h => h) | (intro h; simp at h; omega) | (simp only [List.length_cons, List.length_nil, List.length_append, List.length_map, List.length_set, List.length_replicate]; omega) | (intro h; simp [h]; done) | exact rfl | exact True.intro | (constructor <;> omega) | (unfold maxLen; omega) | exact hmm _ (Cn.getD_memL (by omega)) | exact ⟨by omega, by omega, by omega, by omega⟩ | done
     ·
      refine ap ?_ az
      first | omega | exact id | exact vcNot | exact vcG | exact vcH | (intro _; omega) | exact (fun _ h => h) | (intro h; simp at h; omega) | (simp only [List.length_cons, List.length_nil, List.length_append, List.length_map, List.length_set, List.length_replicate]; omega) | (intro h; simp [h]; done) | exact rfl | exact True.intro | (constructor <;> omega) | (unfold maxLen; omega) | exact hmm _ (Cn.getD_memL (by omega)) | exact ⟨by omega, by omega, by omega, by omega⟩ | done
     ·
      have hf := Cn.step_true hI (by omega) h4
      exact Sz hcx [] [4] [45, 11, 9, 5, 8, 32, 33, 34] [213, 231] (Zr (Fk (Fk (Fr (Fr (Fk (Fr (fin_jumpB_ret (Rv hcx (congrArg AV.bool (show true = (Cn.flwV c l) from (by first | exact hf.symm | exact (Cn.step_false hI hct (fun j hj => hok j (by omega))).symm))) [] rfl)))))))))
     ·
      have hq := h4
      refine Sz hcx [] [47] [45] [] (Zx (a := ((Cn.lookV (Cn.hasK ks) (lf.getD i [])).1)) (b := 0) (fun h5 => ?_) fun h5 => ?_)
      ·
       have hz := h5
       refine Sq hcx [(213, .to 213)] [] [47, 11, 32, 33, 34] [] [(true = true)] ?_ (Sq hcx [(1004, .to 231)] [8] [9] [231] [Fit ((i : Int) + 1), (0 ≤ (i : Int) ∧ (i : Int) < ((i : Int) + 1) ∧ ((i : Int) + 1) ≤ lf.length ∧ lf.length ≤ 1000000000000)] ?_ (tri_goto (fin_block_goto (fin_block_goto (fin_then_goto (fin_then_goto (fin_block_goto (fin_then_goto (Fn [(213, .to 213), (231, .to 231)] [5, 8] (fin_jump ((lf.take i ++ lf.drop (i + 1)), (addK ks (Cn.lookV (Cn.hasK ks) (lf.getD i [])).1)) ?_ ?_ Eb (Hx 213 (congrArg AObj.mset (show (addK ks ((Cn.lookV (Cn.hasK ks) (lf.getD i [])).1)) = (addK ks (Cn.lookV (Cn.hasK ks) (lf.getD i [])).1) from (by first | rfl | (simp; done)))) (Hx 231 (congrArg (fun x => AObj.row 23 (.intss x)) (show (lf.take (i : Int).toNat ++ lf.drop ((i : Int) + 1).toNat) = (lf.take i ++ lf.drop (i + 1)) from (by first | rfl | (congr 2)))) Hb))))))))))))
       ·
        refine ap ?_ az
        first | omega | exact id | exact vcNot | exact vcG | exact vcH | (intro _; omega) | exact (fun _ h => h) | (intro h; simp at h; omega) | (simp only [List.length_cons, List.length_nil, List.length_append, List.length_map, List.length_set, List.length_replicate]; omega) | (intro h; simp [h]; done) | exact rfl | exact True.intro | (constructor <;> omega) | (unfold maxLen; omega) | exact hmm _ (Cn.getD_memL (by omega)) | exact ⟨by omega, by omega, by omega, by omega⟩ | done
       ·
        refine ap ?_ (ap ?_ az) <;>
         first | omega | exact id | exact vcNot | exact vcG | exact vcH | (intro _; omega) | exact (fun _ h => h) | (intro h; simp at h; omega) | (simp only [List.length_cons, List.length_nil, List.length_append, List.length_map, List.length_set, List.length_replicate]; omega) | (intro h; simp [h]; done) | exact rfl | exact True.intro | (constructor <;> omega) | (unfold maxLen; omega) | exact hmm _ (Cn.getD_memL (by omega)) | exact ⟨by omega, by omega, by omega, by omega⟩ | done
       ·
        try dsimp only
        exact ⟨hct, Cn.step_next hI (by omega) hz⟩
       ·
        try dsimp only
        (simp only [List.length_append, List.length_take, List.length_drop]; omega)
      ·
       have hz := h5
       refine Zk (Fb (Fb (Ft (Tq hcx [] [34] [47, 11, 9] [] [Fit ((i : Int) + 1)] ?_ (Lr (i + 1) ?_ ?_ (Ex 34 (congrArg AV.int (show ((i : Int) + 1) = ((i + 1) : Int) from (by first | rfl | omega | (simp; done)))) Eb) Hb)))))
       ·
        refine ap ?_ az
        first | omega | exact id | exact vcNot | exact vcG | exact vcH | (intro _; omega) | exact (fun _ h => h) | (intro h; simp at h; omega) | (simp only [List.length_cons, List.length_nil, List.length_append, List.length_map, List.length_set, List.length_replicate]; omega) | (intro h; simp [h]; done) | exact rfl | exact True.intro | (constructor <;> omega) | (unfold maxLen; omega) | exact hmm _ (Cn.getD_memL (by omega)) | exact ⟨by omega, by omega, by omega, by omega⟩ | done
       ·
        exact ⟨by omega, Cn.look_next hok hq hz⟩
       ·
        show lf.length - (i + 1) < lf.length - i
        omega
    ·
     exact Ze (Fe (Fe (Fs (Ft (Sz hcx [] [4] [35, 5, 8, 32, 33, 34] [213, 231] (Zr (fin_jumpB_ret (Rv hcx (congrArg AV.bool (show false = (Cn.flwV c l) from (by first | exact hf.symm | exact (Cn.step_false hI hct (fun j hj => hok j (by omega))).symm))) [] rfl))))))))
 ·
  cases hσ
def cx_pRt1 : Cx := ⟨tyPrf, [(36, pLit_σ)], true⟩
theorem cx_pRt1_ok : CxOk Tryz.prog cx_pRt1 := cx_ok tyPrf_ok ⟨pLit_sound, trivial⟩
def pRt1_σ : CtF
  | [.im (.val (.int .i64 x))], [] => some (True, .bool (!(Cn.mayP x 65536)), [])
  | _, _ => none
theorem pRt1_sound : Sound Tryz.prog 107 pRt1_σ := by
 refine Sw (cx := cx_pRt1) Tryz.f107 Tryz.func107 ?_
 intro wW wO wβ G0 args os p r outs hσ hp
 have hcx := cx_pRt1_ok
 unfold pRt1_σ at hσ
 split at hσ
 ·
  rename_i x
  cases hσ
  refine ⟨by kernel_rfl, ?_⟩
  exact Sz hcx [] [] [] [] (Sq hcx [] [2] [0] [] [(True)] (ap (by exact True.intro) az) (Zr (Ru hcx [])))
 ·
  cases hσ
def cx_ixRt : Cx := ⟨tyPrf, [(107, pRt1_σ)], true⟩
theorem cx_ixRt_ok : CxOk Tryz.prog cx_ixRt := cx_ok tyPrf_ok ⟨pRt1_sound, trivial⟩
def ixRt_σ : CtF
  | [.im (.ls (.ints s)), .clo 107 []], [] => some (s.length ≤ maxLen ∧ True, .int (Cn.idxF (fun x => !(Cn.mayP x 65536)) s), [])
  | _, _ => none
theorem ixRt_sound : Sound Tryz.prog 92 ixRt_σ := by
 refine Sw (cx := cx_ixRt) Tryz.f92 Tryz.func92 ?_
 intro wW wO wβ G0 args os p r outs hσ hp
 have hcx := cx_ixRt_ok
 unfold ixRt_σ at hσ
 split at hσ
 ·
  rename_i s
  cases hσ
  refine ⟨by kernel_rfl, ?_⟩
  obtain ⟨hm1, hpr⟩ := hp
  unfold maxLen at hm1
  refine Sz hcx [] [] [] [] (Zs (Sz hcx [] [7, 8] [] [] (Zb (Lp (X := Nat) (fun x0 => x0 ≤ s.length ∧ ∀ j, j < x0 → ((fun x => !(Cn.mayP x 65536)) (s.getD j 0)) = false) (fun x0 => ([(0, .ints s), (1, .clo 107 []), (7, .int (s.length : Int)), (8, .int (x0 : Int))], [])) (fun x0 => s.length - x0) (0) ?_ (Ex 8 (congrArg AV.int (show 0 = (0 : Int) from (by first | rfl | omega | (simp; done)))) Eb) Hb fun k hI => ?_))))
  ·
   exact ⟨Nat.zero_le _, fun j hj => by omega⟩
  ·
   try dsimp only at hI
   obtain ⟨hk, hok⟩ := hI
   refine Sz hcx [] [9] [] [] (Zs (Zj (p := ((k : Int) < (s.length : Int))) (fun h0 => ?_) fun h0 => ?_))
   ·
    refine Zk (Ft (Zs (Zb (Sz hcx [] [5] [9] [] (Sq hcx [] [16] [] [] [((0 : Int) ≤ (k : Int) ∧ (k : Int) < (s.length : Int)), (True)] ?_ (Zi (b := !(Cn.mayP (s.getD k 0) 65536)) (fun h1 => ?_) fun h1 => ?_))))))
    ·
     refine ap ?_ (ap ?_ az) <;>
      first | omega | exact id | exact vcNot | exact vcG | exact vcH | (intro _; omega) | exact (fun _ h => h) | (intro h; simp at h; omega) | (simp only [List.length_cons, List.length_nil, List.length_append, List.length_map, List.length_set, List.length_replicate]; omega) | (intro h; simp [h]; done) | exact True.intro | done
    ·
     have hq : ((fun x => !(Cn.mayP x 65536)) (s.getD k 0)) = true := h1
     exact Sz hcx [] [4] [16, 5, 0, 1, 7, 8] [] (Zr (Fk (Fr (Fr (Fk (Fr (Rv hcx (congrArg AV.int (show (k : Int) = (Cn.idxF (fun x => !(Cn.mayP x 65536)) s) from (by exact (Cn.idxF_yes (p := (fun x => !(Cn.mayP x 65536))) (by omega) hok hq).symm))) [] rfl)))))))
    ·
     have hq : ((fun x => !(Cn.mayP x 65536)) (s.getD k 0)) = false := h1
     refine Zk (Fb (Ft (Tq hcx [] [8] [16, 5] [] [Fit ((k : Int) + 1)] ?_ (Lr (k + 1) ?_ ?_ (Ex 8 (congrArg AV.int (show ((k : Int) + 1) = ((k + 1) : Int) from (by first | rfl | omega | (simp; done)))) Eb) Hb))))
     ·
      refine ap ?_ az
      first | omega | exact id | exact vcNot | exact vcG | exact vcH | (intro _; omega) | exact (fun _ h => h) | (intro h; simp at h; omega) | (simp only [List.length_cons, List.length_nil, List.length_append, List.length_map, List.length_set, List.length_replicate]; omega) | (intro h; simp [h]; done) | exact True.intro | done
     ·
      exact ⟨by omega, Cn.falseSucc hok hq⟩
     ·
      show s.length - (k + 1) < s.length - k
      omega
   ·
    exact Ze (Fe (Fe (Fs (Ft (Sz hcx [] [4] [9, 0, 1, 7, 8] [] (Zr (Rv hcx (congrArg AV.int (show (-1) = (Cn.idxF (fun x => !(Cn.mayP x 65536)) s) from (by exact (Cn.idxF_no (p := (fun x => !(Cn.mayP x 65536))) (Cn.all_mem (d := 0) (fun j hj => hok j (by omega)))).symm))) [] rfl)))))))
 ·
  cases hσ
def cx_ctRt : Cx := ⟨tyPrf, [(92, (coeF [.ld (.ints []), .id] ixRt_σ))], true⟩
theorem cx_ctRt_ok : CxOk Tryz.prog cx_ctRt := cx_ok tyPrf_ok ⟨(ixRt_sound.coe [.ld (.ints []), .id] rfl), trivial⟩
def ctRt_σ : CtF
  | [.im (.ls (.ints s)), .clo 107 []], [] => some (s.length ≤ maxLen ∧ True, .bool (s.any (fun x => !(Cn.mayP x 65536))), [])
  | _, _ => none
theorem ctRt_sound : Sound Tryz.prog 61 ctRt_σ := by
 refine Sw (cx := cx_ctRt) Tryz.f61 Tryz.func61 ?_
 intro wW wO wβ G0 args os p r outs hσ hp
 have hcx := cx_ctRt_ok
 unfold ctRt_σ at hσ
 split at hσ
 ·
  rename_i s
  cases hσ
  refine ⟨by kernel_rfl, ?_⟩
  refine Sz hcx [] [] [] [] (Sq hcx [] [4] [0, 1] [] [(s.length ≤ maxLen ∧ True)] ?_ (Zr (Rv hcx (congrArg AV.bool (show (decide ((Cn.idxF (fun x => !(Cn.mayP x 65536)) s) ≥ 0)) = (s.any (fun x => !(Cn.mayP x 65536))) from (by exact Cn.idxF_any (p := (fun x => !(Cn.mayP x 65536))) s))) [] rfl)))
  ·
   refine ap ?_ az
   first | exact hp | (intro h; exact h) | omega
 ·
  cases hσ
def cx_pRight : Cx := ⟨tyPrf, [(61, (coeF [.ld (.ints []), .id] ctRt_σ))], true⟩
theorem cx_pRight_ok : CxOk Tryz.prog cx_pRight := cx_ok tyPrf_ok ⟨(ctRt_sound.coe [.ld (.ints []), .id] rfl), trivial⟩
def pRight_σ : CtF
  | [.agg [.im (.val (.int .i64 k)), .im (.ls (.ints l))]], [] => some (l.length ≤ maxLen, .bool (Cn.lineOk (k, l)), [])
  | _, _ => none
theorem pRight_sound : Sound Tryz.prog 77 pRight_σ := by
 refine Sw (cx := cx_pRight) Tryz.f77 Tryz.func77 ?_
 intro wW wO wβ G0 args os p r outs hσ hp
 have hcx := cx_pRight_ok
 unfold pRight_σ at hσ
 split at hσ
 ·
  rename_i k l
  cases hσ
  refine ⟨by kernel_rfl, ?_⟩
  refine Sz hcx [(1000, .frz)] [1] [0] [] (Sz hcx [] [3] [] [] (Sq hcx [] [2] [3, 1] [] [((decide (k ≥ 1)) = true → ((decide (k ≥ 1)) = true)), ((decide (k ≥ 1)) = true → ((decide (k ≥ 1)) = true)), ((decide (k ≥ 1)) = true → (decide (k ≥ 1)) = true), (((decide (k ≥ 1)) && (decide (k ≤ 3))) = true → (((decide (k ≥ 1)) && (decide (k ≤ 3))) = true)), (((decide (k ≥ 1)) && (decide (k ≤ 3))) = true → (((decide (k ≥ 1)) && (decide (k ≤ 3))) = true)), (((decide (k ≥ 1)) && (decide (k ≤ 3))) = true → (((decide (k ≥ 1)) && (decide (k ≤ 3))) = true)), (((decide (k ≥ 1)) && (decide (k ≤ 3))) = true → (l.length ≤ maxLen ∧ True)), (((decide (k ≥ 1)) && (decide (k ≤ 3))) = true → (((decide (k ≥ 1)) && (decide (k ≤ 3))) = true)), (((decide (k ≥ 1)) && (decide (k ≤ 3))) = true → ((decide (k ≥ 1)) && (decide (k ≤ 3))) = true)] ?_ (Zr (Rv hcx (congrArg AV.bool (show (((decide (k ≥ 1)) && (decide (k ≤ 3))) && (!(l.any (fun x => !(Cn.mayP x 65536))))) = (Cn.lineOk (k, l)) from (by exact Cn.right_is k l))) [] rfl))))
  ·
   refine ap ?_ (ap ?_ (ap (by exact id) (ap ?_ (ap ?_ (ap ?_ (ap ?_ (ap ?_ (ap (by exact id) az)))))))) <;>
    first | exact (fun _ => ⟨hp, True.intro⟩) | exact id | (intro h; exact h) | omega | exact id | exact vcNot | exact vcG | exact vcH | (intro _; omega) | exact (fun _ h => h) | (intro h; simp at h; omega) | (simp only [List.length_cons, List.length_nil, List.length_append, List.length_map, List.length_set, List.length_replicate]; omega) | (intro h; simp [h]; done)
 ·
  cases hσ
def cx_pFm1 : Cx := ⟨tyPrf, [(77, (coeF [.agg [.id, .ld (.ints [])]] pRight_σ))], true⟩
theorem cx_pFm1_ok : CxOk Tryz.prog cx_pFm1 := cx_ok tyPrf_ok ⟨(pRight_sound.coe [.agg [.id, .ld (.ints [])]] rfl), trivial⟩
def pFm1_σ : CtF
  | [.agg [.im (.val (.int .i64 k)), .im (.ls (.ints l))]], [] => some (l.length ≤ maxLen, .bool (!(Cn.lineOk (k, l))), [])
  | _, _ => none
theorem pFm1_sound : Sound Tryz.prog 76 pFm1_σ := by
 refine Sw (cx := cx_pFm1) Tryz.f76 Tryz.func76 ?_
 intro wW wO wβ G0 args os p r outs hσ hp
 have hcx := cx_pFm1_ok
 unfold pFm1_σ at hσ
 split at hσ
 ·
  rename_i k l
  cases hσ
  refine ⟨by kernel_rfl, ?_⟩
  exact Sz hcx [(1000, .frz)] [1] [0] [] (Sq hcx [] [2] [1] [] [(l.length ≤ maxLen)] (ap (by exact hp) az) (Zr (Ru hcx [])))
 ·
  cases hσ
def cx_ixFm : Cx := ⟨tyPrf, [(76, (coeF [.agg [.id, .ld (.ints [])]] pFm1_σ))], true⟩
theorem cx_ixFm_ok : CxOk Tryz.prog cx_ixFm := cx_ok tyPrf_ok ⟨(pFm1_sound.coe [.agg [.id, .ld (.ints [])]] rfl), trivial⟩
def ixFm_σ : CtF
  | [.im (.ls (.lines s)), .clo 76 []], [] => some (s.length ≤ maxLen ∧ ∀ x ∈ s, x.2.length ≤ maxLen, .int (Cn.idxF (fun x => !(Cn.lineOk x)) s), [])
  | _, _ => none
theorem ixFm_sound : Sound Tryz.prog 106 ixFm_σ := by
 refine Sw (cx := cx_ixFm) Tryz.f106 Tryz.func106 ?_
 intro wW wO wβ G0 args os p r outs hσ hp
 have hcx := cx_ixFm_ok
 unfold ixFm_σ at hσ
 split at hσ
 ·
  rename_i s
  cases hσ
  refine ⟨by kernel_rfl, ?_⟩
  obtain ⟨hm1, hpr⟩ := hp
  unfold maxLen at hm1
  refine Sz hcx [] [] [] [] (Zs (Sz hcx [] [7, 8] [] [] (Zb (Lp (X := Nat) (fun x0 => x0 ≤ s.length ∧ ∀ j, j < x0 → ((fun x => !(Cn.lineOk x)) (s.getD j (0, []))) = false) (fun x0 => ([(0, .lines s), (1, .clo 76 []), (7, .int (s.length : Int)), (8, .int (x0 : Int))], [])) (fun x0 => s.length - x0) (0) ?_ (Ex 8 (congrArg AV.int (show 0 = (0 : Int) from (by first | rfl | omega | (simp; done)))) Eb) Hb fun k hI => ?_))))
  ·
   exact ⟨Nat.zero_le _, fun j hj => by omega⟩
  ·
   try dsimp only at hI
   obtain ⟨hk, hok⟩ := hI
   refine Sz hcx [] [9] [] [] (Zs (Zj (p := ((k : Int) < (s.length : Int))) (fun h0 => ?_) fun h0 => ?_))
   ·
    refine Zk (Ft (Zs (Zb (Sz hcx [] [5] [9] [] (Sq hcx [] [16] [] [] [((0 : Int) ≤ (k : Int) ∧ (k : Int) < (s.length : Int)), (((s.getD k (0, [])).2).length ≤ maxLen)] ?_ (Zi (b := !(Cn.lineOk (((s.getD k (0, [])).1), ((s.getD k (0, [])).2)))) (fun h1 => ?_) fun h1 => ?_))))))
    ·
     refine ap ?_ (ap ?_ az) <;>
      first | omega | exact id | exact vcNot | exact vcG | exact vcH | (intro _; omega) | exact (fun _ h => h) | (intro h; simp at h; omega) | (simp only [List.length_cons, List.length_nil, List.length_append, List.length_map, List.length_set, List.length_replicate]; omega) | (intro h; simp [h]; done) | exact hpr _ (Cn.getD_memL (by omega)) | exact True.intro | done
    ·
     have hq : ((fun x => !(Cn.lineOk x)) (s.getD k (0, []))) = true := h1
     exact Sz hcx [] [4] [16, 5, 0, 1, 7, 8] [] (Zr (Fk (Fr (Fr (Fk (Fr (Rv hcx (congrArg AV.int (show (k : Int) = (Cn.idxF (fun x => !(Cn.lineOk x)) s) from (by exact (Cn.idxF_yes (p := (fun x => !(Cn.lineOk x))) (by omega) hok hq).symm))) [] rfl)))))))
    ·
     have hq : ((fun x => !(Cn.lineOk x)) (s.getD k (0, []))) = false := h1
     refine Zk (Fb (Ft (Tq hcx [] [8] [16, 5] [] [Fit ((k : Int) + 1)] ?_ (Lr (k + 1) ?_ ?_ (Ex 8 (congrArg AV.int (show ((k : Int) + 1) = ((k + 1) : Int) from (by first | rfl | omega | (simp; done)))) Eb) Hb))))
     ·
      refine ap ?_ az
      first | omega | exact id | exact vcNot | exact vcG | exact vcH | (intro _; omega) | exact (fun _ h => h) | (intro h; simp at h; omega) | (simp only [List.length_cons, List.length_nil, List.length_append, List.length_map, List.length_set, List.length_replicate]; omega) | (intro h; simp [h]; done) | exact hpr _ (Cn.getD_memL (by omega)) | exact True.intro | done
     ·
      exact ⟨by omega, Cn.falseSucc hok hq⟩
     ·
      show s.length - (k + 1) < s.length - k
      omega
   ·
    exact Ze (Fe (Fe (Fs (Ft (Sz hcx [] [4] [9, 0, 1, 7, 8] [] (Zr (Rv hcx (congrArg AV.int (show (-1) = (Cn.idxF (fun x => !(Cn.lineOk x)) s) from (by exact (Cn.idxF_no (p := (fun x => !(Cn.lineOk x))) (Cn.all_mem (d := (0, [])) (fun j hj => hok j (by omega)))).symm))) [] rfl)))))))
 ·
  cases hσ
def cx_ctFm : Cx := ⟨tyPrf, [(106, (coeF [.ld (.lines []), .id] ixFm_σ))], true⟩
theorem cx_ctFm_ok : CxOk Tryz.prog cx_ctFm := cx_ok tyPrf_ok ⟨(ixFm_sound.coe [.ld (.lines []), .id] rfl), trivial⟩
def ctFm_σ : CtF
  | [.im (.ls (.lines s)), .clo 76 []], [] => some (s.length ≤ maxLen ∧ ∀ x ∈ s, x.2.length ≤ maxLen, .bool (s.any (fun x => !(Cn.lineOk x))), [])
  | _, _ => none
theorem ctFm_sound : Sound Tryz.prog 75 ctFm_σ := by
 refine Sw (cx := cx_ctFm) Tryz.f75 Tryz.func75 ?_
 intro wW wO wβ G0 args os p r outs hσ hp
 have hcx := cx_ctFm_ok
 unfold ctFm_σ at hσ
 split at hσ
 ·
  rename_i s
  cases hσ
  refine ⟨by kernel_rfl, ?_⟩
  refine Sz hcx [] [] [] [] (Sq hcx [] [4] [0, 1] [] [(s.length ≤ maxLen ∧ ∀ x ∈ s, x.2.length ≤ maxLen)] ?_ (Zr (Rv hcx (congrArg AV.bool (show (decide ((Cn.idxF (fun x => !(Cn.lineOk x)) s) ≥ 0)) = (s.any (fun x => !(Cn.lineOk x))) from (by exact Cn.idxF_any (p := (fun x => !(Cn.lineOk x))) s))) [] rfl)))
  ·
   refine ap ?_ az
   first | exact hp | (intro h; exact h) | omega
 ·
  cases hσ
def cx_pFormed : Cx := ⟨tyPrf, [(75, (coeF [.ld (.lines []), .id] ctFm_σ))], true⟩
theorem cx_pFormed_ok : CxOk Tryz.prog cx_pFormed := cx_ok tyPrf_ok ⟨(ctFm_sound.coe [.ld (.lines []), .id] rfl), trivial⟩
def pFormed_σ : CtF
  | [.im (.ls (.lines p))], [] => some (p.length ≤ maxLen ∧ ∀ x ∈ p, x.2.length ≤ maxLen, .int (Cn.frmV p), [])
  | _, _ => none
theorem pFormed_sound : Sound Tryz.prog 43 pFormed_σ := by
 refine Sw (cx := cx_pFormed) Tryz.f43 Tryz.func43 ?_
 intro wW wO wβ G0 args os p r outs hσ hp
 have hcx := cx_pFormed_ok
 unfold pFormed_σ at hσ
 split at hσ
 ·
  rename_i p
  cases hσ
  refine ⟨by kernel_rfl, ?_⟩
  refine Sz hcx [] [] [] [] (Zs (Sz hcx [] [5] [] [] (Zj (p := ((p.length : Int) > 65536)) (fun h0 => ?_) fun h0 => ?_)))
  ·
   exact Sz hcx [] [2] [5, 0] [] (Zr (Fr (Rv hcx (congrArg AV.int (show 2 = (Cn.frmV p) from (by exact (Cn.frm_2 h0).symm))) [] rfl)))
  ·
   refine Zk (Ft (Zs (Sq hcx [] [7] [5, 0] [] [(p.length ≤ maxLen ∧ ∀ x ∈ p, x.2.length ≤ maxLen)] ?_ (Zi (b := p.any (fun x => !(Cn.lineOk x))) (fun h1 => ?_) fun h1 => ?_))))
   ·
    refine ap ?_ az
    first | exact hp | omega | exact id | exact vcNot | exact vcG | exact vcH | (intro _; omega) | exact (fun _ h => h) | (intro h; simp at h; omega) | (simp only [List.length_cons, List.length_nil, List.length_append, List.length_map, List.length_set, List.length_replicate]; omega) | (intro h; simp [h]; done)
   ·
    have hq := h1
    exact Sz hcx [] [2] [7] [] (Zr (Fr (Rv hcx (congrArg AV.int (show 1 = (Cn.frmV p) from (by exact (Cn.frm_1 h0 hq).symm))) [] rfl)))
   ·
    have hq := h1
    exact Zk (Ft (Sz hcx [] [2] [7] [] (Zr (Rv hcx (congrArg AV.int (show 0 = (Cn.frmV p) from (by exact (Cn.frm_0 h0 hq).symm))) [] rfl))))
 ·
  cases hσ
def cx_sValues : Cx := ⟨tyPrf, [], true⟩
theorem cx_sValues_ok : CxOk Tryz.prog cx_sValues := cx_ok tyPrf_ok trivial
def sValues_σ : CtF
  | [.im (.ls (.ints l))], [] => some (True, .clo 130 [.pto [.ls (.ints l)]], [])
  | _, _ => none
theorem sValues_sound : Sound Tryz.prog 109 sValues_σ := by
 refine Sw (cx := cx_sValues) Tryz.f109 Tryz.func109 ?_
 intro wW wO wβ G0 args os p r outs hσ hp
 have hcx := cx_sValues_ok
 unfold sValues_σ at hσ
 split at hσ
 ·
  rename_i l
  cases hσ
  refine ⟨by kernel_rfl, ?_⟩
  exact Sz hcx [(1000, .frz)] [1] [0] [] (Sz hcx [] [2] [1] [] (Zr (Ru hcx [])))
 ·
  cases hσ
def cx_sAppSeq : Cx := ⟨tyPrf, [], true⟩
theorem cx_sAppSeq_ok : CxOk Tryz.prog cx_sAppSeq := cx_ok tyPrf_ok trivial
def sAppSeq_σ : CtF
  | [.im (.val (.slice none 0 0)), .clo 130 [.pto [.ls (.ints l)]]], [] => some (l.length ≤ 1000000000000, .row 0, [some (.row 3 (.ints l))])
  | _, _ => none
theorem sAppSeq_sound : Sound Tryz.prog 158 sAppSeq_σ := by
 refine Sw (cx := cx_sAppSeq) Tryz.f158 Tryz.func158 ?_
 intro wW wO wβ G0 args os p r outs hσ hp
 have hcx := cx_sAppSeq_ok
 unfold sAppSeq_σ at hσ
 split at hσ
 ·
  rename_i l
  cases hσ
  refine ⟨by kernel_rfl, ?_⟩
  have hm1 := hp
  refine Sz hcx [(1000, .to 602)] [2, 4] [0] [] (Zs (Zs (Zv 602 0 10 3 (.ints []) (Tz hcx [] [6] [1] [] (Ft (Zb ?_))))))
  refine tri_ren (ρ := [(602, .to 0), (10, .to 10)]) (keys := [6, 2, 4]) (E' := [(6, .clo 130 [.pto [.ls (.ints l)]]), (2, .loc 0 0), (4, .im (.val (.slice none 0 0)))]) (H' := [(0, .box [.row 10]), (10, .row 3 (.ints []))]) (by kernel_rfl) ?_
  refine tri_range (X := Unit) rfl values_seq (caps := [.pto [.ls (.ints l)]]) (by kernel_rfl) (N := l.length) (el := fun i => [.int (l.getD i 0)]) rfl (by kernel_rfl) ?_ 1 970 989 (by kernel_rfl) (fun i x0 => True) (fun i x0 => [(0, .box [.row 10]), (10, .row 3 (.ints (l.take i)))]) (fun i x0 => [(6, .clo 130 [.pto [.ls (.ints l)]]), (2, .loc 0 0), (4, .im (.val (.slice none 0 0))), (5, .int (l.getD i 0))]) (fun i x0 => [(0, .box [.row 10]), (10, .row 3 (.ints (l.take i)))]) (()) ?_ ?_ (fun _ _ => rfl) (fun _ _ _ => by kernel_rfl) (fun _ _ => by kernel_rfl) ?_ ?_ ?_
  ·
   (unfold maxLen; omega)
  ·
   show True
   exact True.intro
  ·
   exact Hb
  ·
   intro Wr Or βr Gr l0 r0 i un hi0 hI0
   replace hI0 : True := hI0
   change Tri _ [(7, .int (l.getD i 0)), (6, .clo 130 [.pto [.ls (.ints l)]]), (2, .loc 0 0), (4, .im (.val (.slice none 0 0)))] [(970, .other l0 (.loop r0)), (0, .box [.row 10]), (10, .row 3 (.ints (l.take i)))] _ _
   refine Zt (Tz hcx [] [5] [7] [] ?_)
   refine fin_assign ?_ ?_
   ·
    exact Eb
   ·
    exact Hb
  ·
   intro Wr Or βr Gr l0 r0 i un hi0 hI0
   replace hI0 : True := hI0
   change Tri _ [(6, .clo 130 [.pto [.ls (.ints l)]]), (2, .loc 0 0), (4, .im (.val (.slice none 0 0))), (5, .int (l.getD i 0))] [(970, .other l0 (.loop r0)), (0, .box [.row 10]), (10, .row 3 (.ints (l.take i)))] _ _
   refine Zt (Zb (Tq hcx [(0, .to 0), (1003, .to 10)] [] [6, 2, 4, 5] [10] [(((l.take i).length + [(l.getD i 0)].length) * 8 ≤ 140737488355328)] ?_ (Fb (Fn [(970, .to 970), (0, .to 0), (10, .to 10)] [] ?_))))
   ·
    refine ap ?_ az
    first | omega | exact id | exact vcNot | exact vcG | exact vcH | (intro _; omega) | exact (fun _ h => h) | (intro h; simp at h; omega) | (simp only [List.length_cons, List.length_nil, List.length_append, List.length_map, List.length_set, List.length_replicate]; omega) | (intro h; simp [h]; done) | exact True.intro | (simp only [List.length_cons, List.length_nil, List.length_take]; omega) | done
   refine fin_rnext (()) ?_ ?_
   ·
    show True
    exact True.intro
   ·
    exact Hx 10 (congrArg (fun x => AObj.row 3 (.ints x)) (show ((l.take i) ++ [(l.getD i 0)]) = (l.take (i + 1)) from (by exact (Cn.take_sD (by omega)).symm))) Hb
  ·
   intro D0 un hI0
   replace hI0 : True := hI0
   change Fin _ [(6, .clo 130 [.pto [.ls (.ints l)]]), (2, .loc 0 0), (4, .im (.val (.slice none 0 0)))] [(989, .other D0 dfr), (0, .box [.row 10]), (10, .row 3 (.ints (l.take l.length)))] _ _
   exact Zf (Fb (Ft (Sz hcx [] [4] [6, 2] [0] (Zr (Fn [(10, .to 0), (989, .to 989)] [4] (Fq [(4, .row 0)] [(0, .row 3 (.ints (l.take l.length))), (989, .other D0 dfr)] (fin_retM _ rfl [(989, D0)] rfl rfl ⟨rfl, trivial⟩ hcx (avs := [.row 0]) (by kernel_rfl) rfl [true] (Eq.trans (show _ = [some (.row 3 (.ints (l.take l.length)))] from by kernel_rfl) (consO (congrArg some (congrArg (fun x => AObj.row 3 (.ints x)) (show (l.take l.length) = l from (by exact List.take_length)))) rfl)))))))))
 ·
  cases hσ
def cx_sCollect : Cx := ⟨tyPrf, [(158, sAppSeq_σ)], true⟩
theorem cx_sCollect_ok : CxOk Tryz.prog cx_sCollect := cx_ok tyPrf_ok ⟨sAppSeq_sound, trivial⟩
def sCollect_σ : CtF
  | [.clo 130 [.pto [.ls (.ints l)]]], [] => some (l.length ≤ 1000000000000, .row 0, [some (.row 3 (.ints l))])
  | _, _ => none
theorem sCollect_sound : Sound Tryz.prog 128 sCollect_σ := by
 refine Sw (cx := cx_sCollect) Tryz.f128 Tryz.func128 ?_
 intro wW wO wβ G0 args os p r outs hσ hp
 have hcx := cx_sCollect_ok
 unfold sCollect_σ at hσ
 split at hσ
 ·
  rename_i l
  cases hσ
  refine ⟨by kernel_rfl, ?_⟩
  refine Sz hcx [] [] [] [] (Sq hcx [(1001, .to 204)] [2] [0] [] [(l.length ≤ 1000000000000)] ?_ (Zr (Fn [(204, .to 0)] [2] (Ru hcx [true]))))
  ·
   refine ap ?_ az
   first | exact hp | done
 ·
  cases hσ
def cx_sSorted : Cx := ⟨tyPrf, [(129, sSortI), (128, sCollect_σ)], true⟩
theorem cx_sSorted_ok : CxOk Tryz.prog cx_sSorted := cx_ok tyPrf_ok ⟨sSortI_sound, sCollect_sound, trivial⟩
def sSorted_σ : CtF
  | [.clo 130 [.pto [.ls (.ints l)]]], [] => some (l.length ≤ 1000000000000, .row 0, [some (.row 3 (.ints (Cn.sortI l)))])
  | _, _ => none
theorem sSorted_sound : Sound Tryz.prog 108 sSorted_σ := by
 refine Sw (cx := cx_sSorted) Tryz.f108 Tryz.func108 ?_
 intro wW wO wβ G0 args os p r outs hσ hp
 have hcx := cx_sSorted_ok
 unfold sSorted_σ at hσ
 split at hσ
 ·
  rename_i l
  cases hσ
  refine ⟨by kernel_rfl, ?_⟩
  refine Sz hcx [] [] [] [] (Sq hcx [(1001, .to 205)] [3] [0] [] [(l.length ≤ 1000000000000)] ?_ (Sq hcx [(205, .to 205)] [] [] [] [(l.length ≤ 1000000000000)] ?_ (Sz hcx [] [2] [3] [] (Zr (Fn [(205, .to 0)] [2] (Ru hcx [true]))))))
  ·
   refine ap ?_ az
   first | exact hp | done
  ·
   refine ap ?_ az
   first | exact hp | done
 ·
  cases hσ
def cx_pSet : Cx := ⟨tyPrf, [(99, sCompact), (109, (coeF [.ld (.ints [])] sValues_σ)), (108, sSorted_σ)], true⟩
theorem cx_pSet_ok : CxOk Tryz.prog cx_pSet := cx_ok tyPrf_ok ⟨sCompact_sound, (sValues_sound.coe [.ld (.ints [])] rfl), sSorted_sound, trivial⟩
def pSet_σ : CtF
  | [.im (.ls (.ints l))], [] => some (l.length ≤ 1000000000000, .row 0, [some (.row 3 (.ints (Cn.setI l)))])
  | _, _ => none
theorem pSet_sound : Sound Tryz.prog 79 pSet_σ := by
 refine Sw (cx := cx_pSet) Tryz.f79 Tryz.func79 ?_
 intro wW wO wβ G0 args os p r outs hσ hp
 have hcx := cx_pSet_ok
 unfold pSet_σ at hσ
 split at hσ
 ·
  rename_i l
  cases hσ
  refine ⟨by kernel_rfl, ?_⟩
  refine Sz hcx [] [] [] [] (Sq hcx [(1003, .to 206)] [2] [0] [] [(True), (l.length ≤ 1000000000000), ((Cn.sortI l).length ≤ 1000000000000)] ?_ (Zr (Fn [(206, .to 0)] [2] (Rv hcx rfl [true] (consO (congrArg some (congrArg (fun x => AObj.row 3 (.ints x)) (show (Lib.compact (Cn.sortI l)) = (Cn.setI l) from (by first | rfl | (simp; done))))) rfl)))))
  ·
   refine ap ?_ (ap ?_ (ap ?_ az)) <;>
    first | exact True.intro | exact hp | (rw [Cn.sortI_len]; exact hp) | done
 ·
  cases hσ
def cx_sEqual : Cx := ⟨tyPrf, [], true⟩
theorem cx_sEqual_ok : CxOk Tryz.prog cx_sEqual := cx_ok tyPrf_ok trivial
def sEqual_σ : CtF
  | [.im (.ls (.ints a)), .im (.ls (.ints b))], [] => some (a.length ≤ maxLen ∧ b.length ≤ maxLen, .bool (a == b), [])
  | _, _ => none
theorem sEqual_sound : Sound Tryz.prog 81 sEqual_σ := by
 refine Sw (cx := cx_sEqual) Tryz.f81 Tryz.func81 ?_
 intro wW wO wβ G0 args os p r outs hσ hp
 have hcx := cx_sEqual_ok
 have hmx : Tryz.prog.follows .mixedOrders = true := by kernel_rfl
 unfold sEqual_σ at hσ
 split at hσ
 ·
  rename_i a b
  cases hσ
  refine ⟨by kernel_rfl, ?_⟩
  obtain ⟨hm1, hm2⟩ := hp
  unfold maxLen at hm1 hm2
  refine Sz hcx [] [] [] [] (Zs (Sz hcx [] [10] [] [] (Zi (b := (a.length : Int) != (b.length : Int)) (fun h0 => ?_) fun h0 => ?_)))
  ·
   replace h0 := bne_iff_ne.1 h0
   have hne := h0
   exact Sz hcx [] [4] [10, 0, 1] [] (Zr (Fr (Rv hcx (congrArg AV.bool (show false = (a == b) from (by first | exact (Cn.eq_len (by omega)).symm | exact (Cn.eq_no (by omega) hq).symm | exact (Cn.eq_yes (by omega) (fun j hj => hok j (by omega))).symm))) [] rfl)))
  ·
   replace h0 := bneF h0
   have hle := h0
   refine Zk (Ft (Zs (Sz hcx [] [12, 13] [10] [] (Zb (Lp (X := Nat) (fun x0 => x0 ≤ a.length ∧ ∀ j, j < x0 → a.getD j 0 = b.getD j 0) (fun x0 => ([(0, .ints a), (1, .ints b), (12, .int (a.length : Int)), (13, .int (x0 : Int))], [])) (fun x0 => a.length - x0) (0) ?_ (Ex 13 (congrArg AV.int (show 0 = (0 : Int) from (by first | rfl | omega | (simp; done)))) Eb) Hb fun k hI => ?_)))))
   ·
    exact ⟨Nat.zero_le _, fun j hj => by omega⟩
   ·
    try dsimp only at hI
    obtain ⟨hk, hok⟩ := hI
    refine Sz hcx [] [14] [] [] (Zs (Zj (p := ((k : Int) < (a.length : Int))) (fun h1 => ?_) fun h1 => ?_))
    ·
     refine Zk (Ft (Zs (Zb (Sz hcx [] [5] [14] [] (Sd hcx hmx [0, 0, 3, 7, 0, 0, 48, 112, 255] [] [24] [5] [] [((0 : Int) ≤ (k : Int) ∧ (k : Int) < (a.length : Int)), ((0 : Int) ≤ (k : Int) ∧ (k : Int) < (b.length : Int))] ?_ (Zi (b := (a.getD k 0) != (b.getD k 0)) (fun h2 => ?_) fun h2 => ?_))))))
     ·
      refine ap ?_ (ap ?_ az) <;>
       first | omega | exact id | exact vcNot | exact vcG | exact vcH | (intro _; omega) | exact (fun _ h => h) | (intro h; simp at h; omega) | (simp only [List.length_cons, List.length_nil, List.length_append, List.length_map, List.length_set, List.length_replicate]; omega) | (intro h; simp [h]; done) | (constructor <;> omega) | done
     ·
      replace h2 := bne_iff_ne.1 h2
      have hq := h2
      exact Sz hcx [] [4] [24, 0, 1, 12, 13] [] (Zr (Fk (Fr (Fr (Fk (Fr (Rv hcx (congrArg AV.bool (show false = (a == b) from (by first | exact (Cn.eq_len (by omega)).symm | exact (Cn.eq_no (by omega) hq).symm | exact (Cn.eq_yes (by omega) (fun j hj => hok j (by omega))).symm))) [] rfl)))))))
     ·
      replace h2 := bneF h2
      have hq := h2
      refine Zk (Fb (Ft (Tq hcx [] [13] [24] [] [Fit ((k : Int) + 1)] ?_ (Lr (k + 1) ?_ ?_ (Ex 13 (congrArg AV.int (show ((k : Int) + 1) = ((k + 1) : Int) from (by first | rfl | omega | (simp; done)))) Eb) Hb))))
      ·
       refine ap ?_ az
       first | omega | exact id | exact vcNot | exact vcG | exact vcH | (intro _; omega) | exact (fun _ h => h) | (intro h; simp at h; omega) | (simp only [List.length_cons, List.length_nil, List.length_append, List.length_map, List.length_set, List.length_replicate]; omega) | (intro h; simp [h]; done) | (constructor <;> omega) | done
      ·
       exact ⟨by omega, fun j hj => by rcases (by omega : j < k ∨ j = k) with h | rfl; exact hok j h; exact hq⟩
      ·
       show a.length - (k + 1) < a.length - k
       omega
    ·
     exact Ze (Fe (Fe (Fs (Ft (Sz hcx [] [4] [14, 0, 1, 12, 13] [] (Zr (Rv hcx (congrArg AV.bool (show true = (a == b) from (by first | exact (Cn.eq_len (by omega)).symm | exact (Cn.eq_no (by omega) hq).symm | exact (Cn.eq_yes (by omega) (fun j hj => hok j (by omega))).symm))) [] rfl)))))))
 ·
  cases hσ
def cx_pAlike : Cx := ⟨tyPrf, [(79, (coeF [.ld (.ints [])] pSet_σ))], true⟩
theorem cx_pAlike_ok : CxOk Tryz.prog cx_pAlike := cx_ok tyPrf_ok ⟨(pSet_sound.coe [.ld (.ints [])] rfl), trivial⟩
def pAlike_σ : CtF
  | [.im (.ls (.ints l))], [] => some (l.length ≤ 1000000000000, .clo 80 [.pto [.ls (.ints (Cn.setI l))]], [])
  | _, _ => none
theorem pAlike_sound : Sound Tryz.prog 48 pAlike_σ := by
 refine Sw (cx := cx_pAlike) Tryz.f48 Tryz.func48 ?_
 intro wW wO wβ G0 args os p r outs hσ hp
 have hcx := cx_pAlike_ok
 unfold pAlike_σ at hσ
 split at hσ
 ·
  rename_i l
  cases hσ
  refine ⟨by kernel_rfl, ?_⟩
  refine Sz hcx [] [] [] [] (Sq hcx [(1001, .to 205), (1002, .to 603)] [3] [0] [] [(l.length ≤ 1000000000000)] ?_ (Zs (Zn [(603, .to 603), (205, .frz)] [3] (Zn [(603, .frz)] [3] (Tz hcx [] [2] [3] [] (Ft (Zr (Ru hcx []))))))))
  ·
   refine ap ?_ az
   first | exact hp | done
 ·
  cases hσ
def cx_pAlike1 : Cx := ⟨tyPrf, [(79, (coeF [.ld (.ints [])] pSet_σ)), (81, (coeF [.ld (.ints []), .ld (.ints [])] sEqual_σ))], true⟩
theorem cx_pAlike1_ok : CxOk Tryz.prog cx_pAlike1 := cx_ok tyPrf_ok ⟨(pSet_sound.coe [.ld (.ints [])] rfl), (sEqual_sound.coe [.ld (.ints []), .ld (.ints [])] rfl), trivial⟩
def pAlike1_σ : CtF
  | [.im (.ls (.ints x)), .pto [.ls (.ints w)]], [] => some (x.length ≤ 1000000000000 ∧ w.length ≤ 1000000000000, .bool (Cn.setI x == w), [])
  | _, _ => none
theorem pAlike1_sound : Sound Tryz.prog 80 pAlike1_σ := by
 refine Sw (cx := cx_pAlike1) Tryz.f80 Tryz.func80 ?_
 intro wW wO wβ G0 args os p r outs hσ hp
 have hcx := cx_pAlike1_ok
 have hmx : Tryz.prog.follows .mixedOrders = true := by kernel_rfl
 unfold pAlike1_σ at hσ
 split at hσ
 ·
  rename_i x w
  cases hσ
  refine ⟨by kernel_rfl, ?_⟩
  refine Sz hcx [] [] [] [] (Sd hcx hmx [0, 1, 0, 7, 15] [] [3] [0, 1] [] [(x.length ≤ 1000000000000), ((Cn.setI x).length ≤ maxLen ∧ w.length ≤ maxLen)] ?_ (Zr (Ru hcx [])))
  ·
   refine ap ?_ (ap ?_ az) <;>
    first | exact hp.1 | (have h8 := Cn.setI_len x; unfold maxLen; omega) | done
 ·
  cases hσ
def cx_ixAl : Cx := ⟨tyPrf, [(80, (coeF [.ld (.ints []), .id] pAlike1_σ))], true⟩
theorem cx_ixAl_ok : CxOk Tryz.prog cx_ixAl := cx_ok tyPrf_ok ⟨(pAlike1_sound.coe [.ld (.ints []), .id] rfl), trivial⟩
def ixAl_σ : CtF
  | [.im (.ls (.intss s)), .clo 80 [.pto [.ls (.ints w)]]], [] => some (s.length ≤ maxLen ∧ (∀ x ∈ s, x.length ≤ 1000000000000) ∧ w.length ≤ 1000000000000, .int (Cn.idxF (fun x => Cn.setI x == w) s), [])
  | _, _ => none
theorem ixAl_sound : Sound Tryz.prog 51 ixAl_σ := by
 refine Sw (cx := cx_ixAl) Tryz.f51 Tryz.func51 ?_
 intro wW wO wβ G0 args os p r outs hσ hp
 have hcx := cx_ixAl_ok
 unfold ixAl_σ at hσ
 split at hσ
 ·
  rename_i s w
  cases hσ
  refine ⟨by kernel_rfl, ?_⟩
  obtain ⟨hm1, hpr⟩ := hp
  unfold maxLen at hm1
  refine Sz hcx [] [] [] [] (Zs (Sz hcx [] [7, 8] [] [] (Zb (Lp (X := Nat) (fun x0 => x0 ≤ s.length ∧ ∀ j, j < x0 → ((fun x => Cn.setI x == w) (s.getD j [])) = false) (fun x0 => ([(0, .intss s), (1, .clo 80 [.pto [.ls (.ints w)]]), (7, .int (s.length : Int)), (8, .int (x0 : Int))], [])) (fun x0 => s.length - x0) (0) ?_ (Ex 8 (congrArg AV.int (show 0 = (0 : Int) from (by first | rfl | omega | (simp; done)))) Eb) Hb fun k hI => ?_))))
  ·
   exact ⟨Nat.zero_le _, fun j hj => by omega⟩
  ·
   try dsimp only at hI
   obtain ⟨hk, hok⟩ := hI
   refine Sz hcx [] [9] [] [] (Zs (Zj (p := ((k : Int) < (s.length : Int))) (fun h0 => ?_) fun h0 => ?_))
   ·
    refine Zk (Ft (Zs (Zb (Sz hcx [] [5] [9] [] (Sq hcx [] [16] [] [] [((0 : Int) ≤ (k : Int) ∧ (k : Int) < (s.length : Int)), ((s.getD k []).length ≤ 1000000000000 ∧ w.length ≤ 1000000000000)] ?_ (Zi (b := Cn.setI (s.getD k []) == w) (fun h1 => ?_) fun h1 => ?_))))))
    ·
     refine ap ?_ (ap ?_ az) <;>
      first | omega | exact id | exact vcNot | exact vcG | exact vcH | (intro _; omega) | exact (fun _ h => h) | (intro h; simp at h; omega) | (simp only [List.length_cons, List.length_nil, List.length_append, List.length_map, List.length_set, List.length_replicate]; omega) | (intro h; simp [h]; done) | exact ⟨hpr.1 _ (Cn.getD_memL (by omega)), hpr.2⟩ | exact True.intro | done
    ·
     have hq : ((fun x => Cn.setI x == w) (s.getD k [])) = true := h1
     exact Sz hcx [] [4] [16, 5, 0, 1, 7, 8] [] (Zr (Fk (Fr (Fr (Fk (Fr (Rv hcx (congrArg AV.int (show (k : Int) = (Cn.idxF (fun x => Cn.setI x == w) s) from (by exact (Cn.idxF_yes (p := (fun x => Cn.setI x == w)) (by omega) hok hq).symm))) [] rfl)))))))
    ·
     have hq : ((fun x => Cn.setI x == w) (s.getD k [])) = false := h1
     refine Zk (Fb (Ft (Tq hcx [] [8] [16, 5] [] [Fit ((k : Int) + 1)] ?_ (Lr (k + 1) ?_ ?_ (Ex 8 (congrArg AV.int (show ((k : Int) + 1) = ((k + 1) : Int) from (by first | rfl | omega | (simp; done)))) Eb) Hb))))
     ·
      refine ap ?_ az
      first | omega | exact id | exact vcNot | exact vcG | exact vcH | (intro _; omega) | exact (fun _ h => h) | (intro h; simp at h; omega) | (simp only [List.length_cons, List.length_nil, List.length_append, List.length_map, List.length_set, List.length_replicate]; omega) | (intro h; simp [h]; done) | exact ⟨hpr.1 _ (Cn.getD_memL (by omega)), hpr.2⟩ | exact True.intro | done
     ·
      exact ⟨by omega, Cn.falseSucc hok hq⟩
     ·
      show s.length - (k + 1) < s.length - k
      omega
   ·
    exact Ze (Fe (Fe (Fs (Ft (Sz hcx [] [4] [9, 0, 1, 7, 8] [] (Zr (Rv hcx (congrArg AV.int (show (-1) = (Cn.idxF (fun x => Cn.setI x == w) s) from (by exact (Cn.idxF_no (p := (fun x => Cn.setI x == w)) (Cn.all_mem (d := []) (fun j hj => hok j (by omega)))).symm))) [] rfl)))))))
 ·
  cases hσ
def cx_ctAl : Cx := ⟨tyPrf, [(51, (coeF [.ld (.intss []), .id] ixAl_σ))], true⟩
theorem cx_ctAl_ok : CxOk Tryz.prog cx_ctAl := cx_ok tyPrf_ok ⟨(ixAl_sound.coe [.ld (.intss []), .id] rfl), trivial⟩
def ctAl_σ : CtF
  | [.im (.ls (.intss s)), .clo 80 [.pto [.ls (.ints w)]]], [] => some (s.length ≤ maxLen ∧ (∀ x ∈ s, x.length ≤ 1000000000000) ∧ w.length ≤ 1000000000000, .bool (s.any (fun x => Cn.setI x == w)), [])
  | _, _ => none
theorem ctAl_sound : Sound Tryz.prog 47 ctAl_σ := by
 refine Sw (cx := cx_ctAl) Tryz.f47 Tryz.func47 ?_
 intro wW wO wβ G0 args os p r outs hσ hp
 have hcx := cx_ctAl_ok
 unfold ctAl_σ at hσ
 split at hσ
 ·
  rename_i s w
  cases hσ
  refine ⟨by kernel_rfl, ?_⟩
  refine Sz hcx [] [] [] [] (Sq hcx [] [4] [0, 1] [] [(s.length ≤ maxLen ∧ (∀ x ∈ s, x.length ≤ 1000000000000) ∧ w.length ≤ 1000000000000)] ?_ (Zr (Rv hcx (congrArg AV.bool (show (decide ((Cn.idxF (fun x => Cn.setI x == w) s) ≥ 0)) = (s.any (fun x => Cn.setI x == w)) from (by exact Cn.idxF_any (p := (fun x => Cn.setI x == w)) s))) [] rfl)))
  ·
   refine ap ?_ az
   first | exact hp | (intro h; exact h) | omega
 ·
  cases hσ
def cx_pPut1 : Cx := ⟨tyPrf, [], true⟩
theorem cx_pPut1_ok : CxOk Tryz.prog cx_pPut1 := cx_ok tyPrf_ok trivial
def pPut1_σ : CtF
  | [.im (.ls (.ints l)), .loc 0 0], [.box [.row 1], .row 23 (.intss cs)] => some (cs.length ≤ 1000000, .tup [], [some (.box [.row 2]), none, some (.row 23 (.intss (cs ++ [l])))])
  | _, _ => none
theorem pPut1_sound : Sound Tryz.prog 45 pPut1_σ := by
 refine Sw (cx := cx_pPut1) Tryz.f45 Tryz.func45 ?_
 intro wW wO wβ G0 args os p r outs hσ hp
 have hcx := cx_pPut1_ok
 unfold pPut1_σ at hσ
 split at hσ
 ·
  rename_i l cs
  cases hσ
  refine ⟨by kernel_rfl, ?_⟩
  refine Tq hcx [(0, .to 0), (1003, .to 206)] [] [0, 1] [1] [((cs.length + [l].length) * 24 ≤ 140737488355328)] ?_ (Fn [(0, .to 0), (206, .to 2)] [] (Rw hcx rfl [true, false, true] rfl))
  ·
   refine ap ?_ az
   first | omega | exact id | exact vcNot | exact vcG | exact vcH | (intro _; omega) | exact (fun _ h => h) | (intro h; simp at h; omega) | (simp only [List.length_cons, List.length_nil, List.length_append, List.length_map, List.length_set, List.length_replicate]; omega) | (intro h; simp [h]; done) | (simp only [List.length_cons, List.length_nil]; omega) | done
 ·
  cases hσ
def cx_pGiven : Cx := ⟨tyPrf, [(48, (coeF [.ld (.ints [])] pAlike_σ)), (47, (coeF [.ld (.intss []), .id] ctAl_σ)), (45, (coeF [.ld (.ints []), .id] pPut1_σ))], true⟩
theorem cx_pGiven_ok : CxOk Tryz.prog cx_pGiven := cx_ok tyPrf_ok ⟨(pAlike_sound.coe [.ld (.ints [])] rfl), (ctAl_sound.coe [.ld (.intss []), .id] rfl), (pPut1_sound.coe [.ld (.ints []), .id] rfl), trivial⟩
def pGiven_σ : CtF
  | [.im (.ls (.ints l)), .loc 0 0, .pto [.val (.int .i64 N), .ls (.intss L)]], [.box [.clo 45 [.loc 1 0]], .box [.row 2], .row 23 (.intss cs)] => some (cs.length ≤ 1000000 ∧ (∀ x ∈ cs, x.length ≤ 1000000000000) ∧ l.length ≤ 1000000000000 ∧ L.length ≤ maxLen ∧ ∀ x ∈ L, x.length ≤ 1000000000000, .bool (L.any fun y => Cn.alikeB y l), [some (.box [.clo 45 [.loc 1 0]]), some (.box [.row 3]), none, some (.row 23 (.intss (cs ++ [l])))])
  | _, _ => none
theorem pGiven_sound : Sound Tryz.prog 46 pGiven_σ := by
 refine Sw (cx := cx_pGiven) Tryz.f46 Tryz.func46 ?_
 intro wW wO wβ G0 args os p r outs hσ hp
 have hcx := cx_pGiven_ok
 have hmx : Tryz.prog.follows .mixedOrders = true := by kernel_rfl
 unfold pGiven_σ at hσ
 split at hσ
 ·
  rename_i l N L cs
  cases hσ
  refine ⟨by kernel_rfl, ?_⟩
  obtain ⟨hm1, hm2, hm3, hm4, hm5⟩ := hp
  refine Sz hcx [] [] [] [] (Sq hcx [(1, .to 1), (1002, .to 207)] [] [1] [2] [(cs.length ≤ 1000000)] ?_ (Sd hcx hmx [0, 1, 0, 4, 15, 31] [] [4] [0, 2] [] [(l.length ≤ 1000000000000), (L.length ≤ maxLen ∧ (∀ x ∈ L, x.length ≤ 1000000000000) ∧ (Cn.setI l).length ≤ 1000000000000)] ?_ (Zr (Fn [(0, .to 0), (1, .to 1), (207, .to 3)] [4] (Rv hcx (congrArg AV.bool (show (L.any (fun x => Cn.setI x == (Cn.setI l))) = (L.any fun y => Cn.alikeB y l) from (by exact Cn.any_alike L l))) [true, true, false, true] rfl)))))
  ·
   refine ap ?_ az
   first | exact hm1 | exact hm3 | exact ⟨hm4, hm5, Nat.le_trans (Cn.setI_len l) hm3⟩ | done
  ·
   refine ap ?_ (ap ?_ az) <;>
    first | exact hm1 | exact hm3 | exact ⟨hm4, hm5, Nat.le_trans (Cn.setI_len l) hm3⟩ | done
 ·
  cases hσ
def cx_pLearnt : Cx := ⟨tyPrf, [(14, (coeF [.ld (.intss []), .ld (.ints [])] pFlw_σ)), (45, (coeF [.ld (.ints []), .id] pPut1_σ))], true⟩
theorem cx_pLearnt_ok : CxOk Tryz.prog cx_pLearnt := cx_ok tyPrf_ok ⟨(pFlw_sound.coe [.ld (.intss []), .ld (.ints [])] rfl), (pPut1_sound.coe [.ld (.ints []), .id] rfl), trivial⟩
def pLearnt_σ : CtF
  | [.im (.ls (.ints l)), .loc 0 0, .loc 1 0], [.box [.row 2], .box [.clo 45 [.loc 0 0]], .row 23 (.intss cs)] => some (cs.length ≤ 1000000 ∧ (∀ x ∈ cs, x.length ≤ 1000000000000) ∧ l.length ≤ 1000000000000, .bool (Cn.flwV cs l), [some (.box [.row 3]), some (.box [.clo 45 [.loc 0 0]]), none, some (.row 23 (.intss (cs ++ [l])))])
  | _, _ => none
theorem pLearnt_sound : Sound Tryz.prog 49 pLearnt_σ := by
 refine Sw (cx := cx_pLearnt) Tryz.f49 Tryz.func49 ?_
 intro wW wO wβ G0 args os p r outs hσ hp
 have hcx := cx_pLearnt_ok
 unfold pLearnt_σ at hσ
 split at hσ
 ·
  rename_i l cs
  cases hσ
  refine ⟨by kernel_rfl, ?_⟩
  obtain ⟨hm1, hm2, hm3⟩ := hp
  refine Sz hcx [] [] [] [] (Sq hcx [] [5] [1] [] [(cs.length ≤ 1000000000 ∧ (∀ x ∈ cs, x.length ≤ maxLen) ∧ l.length ≤ maxLen)] ?_ (Sq hcx [(0, .to 0), (1002, .to 211)] [] [0, 2] [2] [(cs.length ≤ 1000000)] ?_ (Sz hcx [] [4] [5] [] (Zr (Fn [(0, .to 0), (1, .to 1), (211, .to 3)] [4] (Ru hcx [true, true, false, true]))))))
  ·
   refine ap ?_ az
   first | exact hm1 | exact ⟨by omega, fun x hx => by have := hm2 x hx; unfold maxLen; omega, by unfold maxLen; omega⟩ | done
  ·
   refine ap ?_ az
   first | exact hm1 | exact ⟨by omega, fun x hx => by have := hm2 x hx; unfold maxLen; omega, by unfold maxLen; omega⟩ | done
 ·
  cases hσ
def cx_pDrop : Cx := ⟨tyPrf, [(39, sDelL), (48, (coeF [.ld (.ints [])] pAlike_σ)), (51, (coeF [.ld (.intss []), .id] ixAl_σ))], true⟩
theorem cx_pDrop_ok : CxOk Tryz.prog cx_pDrop := cx_ok tyPrf_ok ⟨sDelL_sound, (pAlike_sound.coe [.ld (.ints [])] rfl), (ixAl_sound.coe [.ld (.intss []), .id] rfl), trivial⟩
def pDrop_σ : CtF
  | [.im (.ls (.ints l)), .loc 0 0], [.box [.row 1], .row 23 (.intss cs)] => some (cs.length ≤ 1000000 ∧ (∀ x ∈ cs, x.length ≤ 1000000000000) ∧ l.length ≤ 1000000000000, .bool (decide (0 ≤ Cn.idxF (fun y => Cn.alikeB y l) cs)), [some (.box [.row 2]), none, some (.row 23 (.intss (Cn.dropC cs l)))])
  | _, _ => none
theorem pDrop_sound : Sound Tryz.prog 50 pDrop_σ := by
 refine Sw (cx := cx_pDrop) Tryz.f50 Tryz.func50 ?_
 intro wW wO wβ G0 args os p r outs hσ hp
 have hcx := cx_pDrop_ok
 have hmx : Tryz.prog.follows .mixedOrders = true := by kernel_rfl
 unfold pDrop_σ at hσ
 split at hσ
 ·
  rename_i l cs
  cases hσ
  refine ⟨by kernel_rfl, ?_⟩
  obtain ⟨hm1, hm2, hm3⟩ := hp
  refine Sz hcx [] [] [] [] (Sd hcx hmx [0, 0, 2, 7, 15] [] [4] [0] [] [(l.length ≤ 1000000000000), (cs.length ≤ maxLen ∧ (∀ x ∈ cs, x.length ≤ 1000000000000) ∧ (Cn.setI l).length ≤ 1000000000000)] ?_ (Zs (Sz hcx [] [10] [] [] (Zj (p := ((Cn.idxF (fun x => Cn.setI x == (Cn.setI l)) cs) ≥ 0)) (fun h0 => ?_) fun h0 => ?_))))
  ·
   refine ap ?_ (ap ?_ az) <;>
    first | exact hm3 | exact ⟨by unfold maxLen; omega, hm2, Nat.le_trans (Cn.setI_len l) hm3⟩ | (constructor <;> omega) | exact ⟨by omega, by omega, by omega, by omega⟩ | omega | done
  ·
   have hq := h0
   have hlt := Cn.idx_lt hq
   refine Tq hcx [(0, .to 0), (1004, .to 215)] [] [10, 1] [1] [Fit ((Cn.idxF (fun x => Cn.setI x == (Cn.setI l)) cs) + 1), (0 ≤ (Cn.idxF (fun x => Cn.setI x == (Cn.setI l)) cs) ∧ (Cn.idxF (fun x => Cn.setI x == (Cn.setI l)) cs) < ((Cn.idxF (fun x => Cn.setI x == (Cn.setI l)) cs) + 1) ∧ ((Cn.idxF (fun x => Cn.setI x == (Cn.setI l)) cs) + 1) ≤ cs.length ∧ cs.length ≤ 1000000000000)] ?_ (Ft (Sz hcx [] [3] [4] [] (Zr (Fn [(0, .to 0), (215, .to 2)] [3] (Rv hcx (congrArg AV.bool (show (decide ((Cn.idxF (fun x => Cn.setI x == (Cn.setI l)) cs) ≥ 0)) = (decide (0 ≤ Cn.idxF (fun y => Cn.alikeB y l) cs)) from (by first | (rw [Cn.idx_alike]; done) | (rw [Cn.idx_alike]; rfl)))) [true, false, true] (consO rfl (consO rfl (consO (congrArg some (congrArg (fun x => AObj.row 23 (.intss x)) (show (cs.take (Cn.idxF (fun x => Cn.setI x == (Cn.setI l)) cs).toNat ++ cs.drop ((Cn.idxF (fun x => Cn.setI x == (Cn.setI l)) cs) + 1).toNat) = (Cn.dropC cs l) from (by first | exact Cn.drop_yes hq | exact Cn.drop_no hq)))) rfl))))))))
   ·
    refine ap ?_ (ap ?_ az) <;>
     first | exact hm3 | exact ⟨by unfold maxLen; omega, hm2, Nat.le_trans (Cn.setI_len l) hm3⟩ | (constructor <;> omega) | exact ⟨by omega, by omega, by omega, by omega⟩ | omega | done
  ·
   have hq := h0
   exact Zk (Ft (Sz hcx [] [3] [10, 4, 1] [] (Zr (Fn [(0, .to 0), (1, .to 2)] [3] (Rv hcx (congrArg AV.bool (show (decide ((Cn.idxF (fun x => Cn.setI x == (Cn.setI l)) cs) ≥ 0)) = (decide (0 ≤ Cn.idxF (fun y => Cn.alikeB y l) cs)) from (by first | (rw [Cn.idx_alike]; done) | (rw [Cn.idx_alike]; rfl)))) [true, false, true] (consO rfl (consO rfl (consO (congrArg some (congrArg (fun x => AObj.row 23 (.intss x)) (show cs = (Cn.dropC cs l) from (by first | exact Cn.drop_yes hq | exact Cn.drop_no hq)))) rfl))))))))
 ·
  cases hσ
def cx_pCheck : Cx := ⟨tyPrf, [(14, (coeF [.ld (.intss []), .ld (.ints [])] pFlw_σ)), (43, (coeF [.ld (.lines [])] pFormed_σ)), (46, (coeF [.ld (.ints []), .id, .id] pGiven_σ)), (49, (coeF [.ld (.ints []), .id, .id] pLearnt_σ)), (50, (coeF [.ld (.ints []), .id] pDrop_σ)), (27, (coeF [.agg [.id, .ld (.intss [])]] cCheck_σ)), (44, (coeF [.ld (.ints []), .id] sContains_σ))], true⟩
theorem cx_pCheck_ok : CxOk Tryz.prog cx_pCheck := cx_ok tyPrf_ok ⟨(pFlw_sound.coe [.ld (.intss []), .ld (.ints [])] rfl), (pFormed_sound.coe [.ld (.lines [])] rfl), (pGiven_sound.coe [.ld (.ints []), .id, .id] rfl), (pLearnt_sound.coe [.ld (.ints []), .id, .id] rfl), (pDrop_sound.coe [.ld (.ints []), .id] rfl), (cCheck_sound.coe [.agg [.id, .ld (.intss [])]] rfl), (sContains_sound.coe [.ld (.ints []), .id] rfl), trivial⟩
def pCheck_σ : CtF
  | [.agg [.im (.val (.int .i64 N)), .im (.ls (.intss L))], .im (.ls (.lines p)), .im (.ls (.ints core))], [] => some (L.length ≤ maxLen ∧ (∀ x ∈ L, x.length ≤ 1000000000000) ∧ p.length ≤ maxLen ∧ (∀ x ∈ p, x.2.length ≤ 1000000000000) ∧ core.length ≤ 1000000000000, .int (Cn.chkC N L p core), [])
  | _, _ => none
set_option maxRecDepth 20000 in
theorem pCheck_sound : Sound Tryz.prog 17 pCheck_σ := by
 refine Sw (cx := cx_pCheck) Tryz.f17 Tryz.func17 ?_
 intro wW wO wβ G0 args os p r outs hσ hp
 have hcx := cx_pCheck_ok
 unfold pCheck_σ at hσ
 split at hσ
 ·
  rename_i N L p core
  cases hσ
  refine ⟨by kernel_rfl, ?_⟩
  obtain ⟨hm1, hm2, hm3, hm4, hm5⟩ := hp
  have h12 : ∀ n : Nat, n ≤ 1000000000000 → n ≤ maxLen := fun n hn => by unfold maxLen; omega
  refine Sz hcx [(1000, .frz)] [3] [0] [] (Zs (Sq hcx [] [7] [] [] [(L.length ≤ maxLen ∧ ∀ l ∈ L, l.length ≤ maxLen)] ?_ (Sz hcx [] [20] [] [] (Zx (a := (Cn.chkV N L)) (b := 0) (fun h0 => ?_) fun h0 => ?_))))
  ·
   refine ap ?_ az
   first | omega | exact id | exact vcNot | exact vcG | exact vcH | (intro _; omega) | exact (fun _ h => h) | (intro h; simp at h; omega) | (simp only [List.length_cons, List.length_nil, List.length_append, List.length_map, List.length_set, List.length_replicate]; omega) | (intro h; simp [h]; done) | exact ⟨hm1, fun x hx => h12 _ (hm2 x hx)⟩ | exact ⟨hm3, fun x hx => h12 _ (hm4 x hx)⟩ | (constructor <;> omega) | (intro _; constructor <;> omega) | exact (fun h => Cn.core_fit hN.1 hN.2 h) | (simp only [List.length_cons, List.length_nil, List.length_map, List.length_take]; omega) | (intro _; rw [List.length_drop, List.length_take]; exact h12 _ (by omega)) | exact ⟨by omega, hcs, hxl (by omega), hm1, hm2⟩ | exact ⟨by omega, hcs, hxl (by omega)⟩ | exact ⟨by omega, fun x hx => h12 _ (hcs x hx), by rw [List.length_map, List.length_take]; exact h12 _ (by omega)⟩ | done
  ·
   have hr := Cn.chk_e1 (p := p) (core := core) h0
   exact Sz hcx [] [6] [20, 7, 3, 1, 2] [] (Zr (Fr (Rv hcx (congrArg AV.int (show (Cn.chkV N L) = (Cn.chkC N L p core) from (by first | exact hr.symm | (rw [hr, he]; done) | done))) [] rfl)))
  ·
   have hc0 : Cn.chkV N L = 0 := by simpa using h0
   have hN := (Cn.chkV_0.1 hc0).1
   refine Zk (Ft (Zs (Sq hcx [] [8] [20, 7] [] [(p.length ≤ maxLen ∧ ∀ x ∈ p, x.2.length ≤ maxLen)] ?_ (Sz hcx [] [25] [] [] (Zx (a := (Cn.frmV p)) (b := 0) (fun h1 => ?_) fun h1 => ?_)))))
   ·
    refine ap ?_ az
    first | omega | exact id | exact vcNot | exact vcG | exact vcH | (intro _; omega) | exact (fun _ h => h) | (intro h; simp at h; omega) | (simp only [List.length_cons, List.length_nil, List.length_append, List.length_map, List.length_set, List.length_replicate]; omega) | (intro h; simp [h]; done) | exact ⟨hm1, fun x hx => h12 _ (hm2 x hx)⟩ | exact ⟨hm3, fun x hx => h12 _ (hm4 x hx)⟩ | (constructor <;> omega) | (intro _; constructor <;> omega) | exact (fun h => Cn.core_fit hN.1 hN.2 h) | (simp only [List.length_cons, List.length_nil, List.length_map, List.length_take]; omega) | (intro _; rw [List.length_drop, List.length_take]; exact h12 _ (by omega)) | exact ⟨by omega, hcs, hxl (by omega), hm1, hm2⟩ | exact ⟨by omega, hcs, hxl (by omega)⟩ | exact ⟨by omega, fun x hx => h12 _ (hcs x hx), by rw [List.length_map, List.length_take]; exact h12 _ (by omega)⟩ | done
   ·
    have hr := Cn.chk_e2 (core := core) hc0 h1
    exact Sz hcx [] [6] [25, 8, 3, 1, 2] [] (Zr (Fr (Rv hcx (congrArg AV.int (show (Cn.frmV p) = (Cn.chkC N L p core) from (by first | exact hr.symm | (rw [hr, he]; done) | done))) [] rfl)))
   ·
    have hf0 : Cn.frmV p = 0 := by simpa using h1
    have hpl := (Cn.frm_ok.1 hf0).1
    refine Zk (Ft (Sz hcx [] [9] [25, 8] [] (Zs (Sz hcx [] [27, 28, 29] [] [] (Zb (Zw 9 700 3 (.ints []) (Lp (X := Nat) (fun x0 => x0 ≤ core.length ∧ ∀ j, j < x0 → Cn.coreAt N core j = true) (fun x0 => ([(1, .lines p), (2, .ints core), (3, .pto [.int N, .ls (.intss L)]), (9, .row 700), (27, .ints core), (28, .int (core.length : Int)), (29, .int (x0 : Int))], [(700, .row 3 (.ints ((core.take x0).map fun x => -x)))])) (fun x0 => core.length - x0) (0) ?_ (Ex 29 (congrArg AV.int (show 0 = (0 : Int) from (by first | rfl | omega | (simp; done)))) Eb) Hb fun i hI => ?_)))))))
    ·
     exact ⟨Nat.zero_le _, fun j hj => by omega⟩
    ·
     try dsimp only at hI
     obtain ⟨hk, hcok⟩ := hI
     refine Sz hcx [] [30] [] [] (Zs (Zj (p := ((i : Int) < (core.length : Int))) (fun h2 => ?_) fun h2 => ?_))
     ·
      refine Zk (Ft (Zs (Zb (Sq hcx [] [10, 11] [30] [] [((0 : Int) ≤ (i : Int) ∧ (i : Int) < (core.length : Int))] ?_ (Zs (Sq hcx [] [63] [10] [] [((!((core.getD i 0) == 0)) = true → ((!((core.getD i 0) == 0)) = true)), ((!((core.getD i 0) == 0)) = true → ((!((core.getD i 0) == 0)) = true)), ((!((core.getD i 0) == 0)) = true → ((!((core.getD i 0) == 0)) = true)), (((core.getD i 0) == 0) = false → (!((core.getD i 0) == 0)) = true), ((!(((core.getD i 0) == 0) || (decide ((core.getD i 0) > N)))) = true → ((!(((core.getD i 0) == 0) || (decide ((core.getD i 0) > N)))) = true)), ((!(((core.getD i 0) == 0) || (decide ((core.getD i 0) > N)))) = true → ((!(((core.getD i 0) == 0) || (decide ((core.getD i 0) > N)))) = true)), ((!(((core.getD i 0) == 0) || (decide ((core.getD i 0) > N)))) = true → Fit (-N)), ((!(((core.getD i 0) == 0) || (decide ((core.getD i 0) > N)))) = true → ((!(((core.getD i 0) == 0) || (decide ((core.getD i 0) > N)))) = true)), ((!(((core.getD i 0) == 0) || (decide ((core.getD i 0) > N)))) = true → ((!(((core.getD i 0) == 0) || (decide ((core.getD i 0) > N)))) = true)), ((((core.getD i 0) == 0) || (decide ((core.getD i 0) > N))) = false → (!(((core.getD i 0) == 0) || (decide ((core.getD i 0) > N)))) = true), ((!((((core.getD i 0) == 0) || (decide ((core.getD i 0) > N))) || (decide ((core.getD i 0) < (-N))))) = true → ((!((((core.getD i 0) == 0) || (decide ((core.getD i 0) > N))) || (decide ((core.getD i 0) < (-N))))) = true)), ((!((((core.getD i 0) == 0) || (decide ((core.getD i 0) > N))) || (decide ((core.getD i 0) < (-N))))) = true → ((!((((core.getD i 0) == 0) || (decide ((core.getD i 0) > N))) || (decide ((core.getD i 0) < (-N))))) = true)), ((!((((core.getD i 0) == 0) || (decide ((core.getD i 0) > N))) || (decide ((core.getD i 0) < (-N))))) = true → ((0 : Int) ≤ (i : Int) ∧ (i : Int) ≤ (core.length : Int))), ((!((((core.getD i 0) == 0) || (decide ((core.getD i 0) > N))) || (decide ((core.getD i 0) < (-N))))) = true → ((!((((core.getD i 0) == 0) || (decide ((core.getD i 0) > N))) || (decide ((core.getD i 0) < (-N))))) = true)), ((!((((core.getD i 0) == 0) || (decide ((core.getD i 0) > N))) || (decide ((core.getD i 0) < (-N))))) = true → ((!((((core.getD i 0) == 0) || (decide ((core.getD i 0) > N))) || (decide ((core.getD i 0) < (-N))))) = true)), ((!((((core.getD i 0) == 0) || (decide ((core.getD i 0) > N))) || (decide ((core.getD i 0) < (-N))))) = true → (((core.take i).drop 0).length ≤ maxLen)), (((((core.getD i 0) == 0) || (decide ((core.getD i 0) > N))) || (decide ((core.getD i 0) < (-N)))) = false → (!((((core.getD i 0) == 0) || (decide ((core.getD i 0) > N))) || (decide ((core.getD i 0) < (-N))))) = true), ((!(((((core.getD i 0) == 0) || (decide ((core.getD i 0) > N))) || (decide ((core.getD i 0) < (-N)))) || (((core.take i).drop 0).contains (core.getD i 0)))) = true → ((!(((((core.getD i 0) == 0) || (decide ((core.getD i 0) > N))) || (decide ((core.getD i 0) < (-N)))) || (((core.take i).drop 0).contains (core.getD i 0)))) = true)), ((!(((((core.getD i 0) == 0) || (decide ((core.getD i 0) > N))) || (decide ((core.getD i 0) < (-N)))) || (((core.take i).drop 0).contains (core.getD i 0)))) = true → ((!(((((core.getD i 0) == 0) || (decide ((core.getD i 0) > N))) || (decide ((core.getD i 0) < (-N)))) || (((core.take i).drop 0).contains (core.getD i 0)))) = true)), ((!(((((core.getD i 0) == 0) || (decide ((core.getD i 0) > N))) || (decide ((core.getD i 0) < (-N)))) || (((core.take i).drop 0).contains (core.getD i 0)))) = true → ((0 : Int) ≤ (i : Int) ∧ (i : Int) ≤ (core.length : Int))), ((!(((((core.getD i 0) == 0) || (decide ((core.getD i 0) > N))) || (decide ((core.getD i 0) < (-N)))) || (((core.take i).drop 0).contains (core.getD i 0)))) = true → ((!(((((core.getD i 0) == 0) || (decide ((core.getD i 0) > N))) || (decide ((core.getD i 0) < (-N)))) || (((core.take i).drop 0).contains (core.getD i 0)))) = true)), ((!(((((core.getD i 0) == 0) || (decide ((core.getD i 0) > N))) || (decide ((core.getD i 0) < (-N)))) || (((core.take i).drop 0).contains (core.getD i 0)))) = true → Fit (-(core.getD i 0))), ((!(((((core.getD i 0) == 0) || (decide ((core.getD i 0) > N))) || (decide ((core.getD i 0) < (-N)))) || (((core.take i).drop 0).contains (core.getD i 0)))) = true → ((!(((((core.getD i 0) == 0) || (decide ((core.getD i 0) > N))) || (decide ((core.getD i 0) < (-N)))) || (((core.take i).drop 0).contains (core.getD i 0)))) = true)), ((!(((((core.getD i 0) == 0) || (decide ((core.getD i 0) > N))) || (decide ((core.getD i 0) < (-N)))) || (((core.take i).drop 0).contains (core.getD i 0)))) = true → ((!(((((core.getD i 0) == 0) || (decide ((core.getD i 0) > N))) || (decide ((core.getD i 0) < (-N)))) || (((core.take i).drop 0).contains (core.getD i 0)))) = true)), ((!(((((core.getD i 0) == 0) || (decide ((core.getD i 0) > N))) || (decide ((core.getD i 0) < (-N)))) || (((core.take i).drop 0).contains (core.getD i 0)))) = true → (((core.take i).drop 0).length ≤ maxLen)), ((((((core.getD i 0) == 0) || (decide ((core.getD i 0) > N))) || (decide ((core.getD i 0) < (-N)))) || (((core.take i).drop 0).contains (core.getD i 0))) = false → (!(((((core.getD i 0) == 0) || (decide ((core.getD i 0) > N))) || (decide ((core.getD i 0) < (-N)))) || (((core.take i).drop 0).contains (core.getD i 0)))) = true)] ?_ (Zi (b := (((((core.getD i 0) == 0) || (decide ((core.getD i 0) > N))) || (decide ((core.getD i 0) < (-N)))) || (((core.take i).drop 0).contains (core.getD i 0))) || (((core.take i).drop 0).contains (-(core.getD i 0)))) (fun h3 => ?_) fun h3 => ?_)))))))
      ·
       refine ap ?_ az
       first | omega | exact id | exact vcNot | exact vcG | exact vcH | (intro _; omega) | exact (fun _ h => h) | (intro h; simp at h; omega) | (simp only [List.length_cons, List.length_nil, List.length_append, List.length_map, List.length_set, List.length_replicate]; omega) | (intro h; simp [h]; done) | exact ⟨hm1, fun x hx => h12 _ (hm2 x hx)⟩ | exact ⟨hm3, fun x hx => h12 _ (hm4 x hx)⟩ | (constructor <;> omega) | (intro _; constructor <;> omega) | exact (fun h => Cn.core_fit hN.1 hN.2 h) | (simp only [List.length_cons, List.length_nil, List.length_map, List.length_take]; omega) | (intro _; rw [List.length_drop, List.length_take]; exact h12 _ (by omega)) | exact ⟨by omega, hcs, hxl (by omega), hm1, hm2⟩ | exact ⟨by omega, hcs, hxl (by omega)⟩ | exact ⟨by omega, fun x hx => h12 _ (hcs x hx), by rw [List.length_map, List.length_take]; exact h12 _ (by omega)⟩ | done
      ·
       refine ap ?_ (ap ?_ (ap ?_ (ap (by exact vcNot) (ap ?_ (ap ?_ (ap ?_ (ap ?_ (ap ?_ (ap (by exact vcNot) (ap ?_ (ap ?_ (ap ?_ (ap ?_ (ap ?_ (ap ?_ (ap (by exact vcNot) (ap ?_ (ap ?_ (ap ?_ (ap ?_ (ap ?_ (ap ?_ (ap ?_ (ap ?_ (ap (by exact vcNot) az))))))))))))))))))))))))) <;>
        first | omega | exact id | exact vcNot | exact vcG | exact vcH | (intro _; omega) | exact (fun _ h => h) | (intro h; simp at h; omega) | (simp only [List.length_cons, List.length_nil, List.length_append, List.length_map, List.length_set, List.length_replicate]; omega) | (intro h; simp [h]; done) | exact ⟨hm1, fun x hx => h12 _ (hm2 x hx)⟩ | exact ⟨hm3, fun x hx => h12 _ (hm4 x hx)⟩ | (constructor <;> omega) | (intro _; constructor <;> omega) | exact (fun h => Cn.core_fit hN.1 hN.2 h) | (simp only [List.length_cons, List.length_nil, List.length_map, List.length_take]; omega) | (intro _; rw [List.length_drop, List.length_take]; exact h12 _ (by omega)) | exact ⟨by omega, hcs, hxl (by omega), hm1, hm2⟩ | exact ⟨by omega, hcs, hxl (by omega)⟩ | exact ⟨by omega, fun x hx => h12 _ (hcs x hx), by rw [List.length_map, List.length_take]; exact h12 _ (by omega)⟩ | done
      ·
       have hq := Cn.ntT (Cn.core_at.symm.trans h3)
       have hr := Cn.chk_e3 (p := p) hc0 hf0 (Cn.core_no (by omega) hq)
       exact Sz hcx [] [6] [63, 11, 1, 2, 3, 9, 27, 28, 29] [700] (Zr (Fr (Fk (Fr (Fr (Fk (Fr (Rv hcx (congrArg AV.int (show 1 = (Cn.chkC N L p core) from (by first | exact hr.symm | (rw [hr, he]; done) | done))) [] rfl))))))))
      ·
       have hq := Cn.ntF (Cn.core_at.symm.trans h3)
       have hxb := Cn.core_bd hN.1 hN.2 hq
       refine Zk (Ft (Tq hcx [(1004, .to 700)] [9] [63, 11] [700] [Fit (-(core.getD i 0)), ((((core.take i).map fun x => -x).length + [(-(core.getD i 0))].length) * 8 ≤ 140737488355328)] ?_ (Fb (Ft (Tq hcx [] [29] [] [] [Fit ((i : Int) + 1)] ?_ (Lr (i + 1) ?_ ?_ (Ex 29 (congrArg AV.int (show ((i : Int) + 1) = ((i + 1) : Int) from (by first | rfl | omega | (simp; done)))) Eb) (Hx 700 (congrArg (fun x => AObj.row 3 (.ints x)) (show (((core.take i).map fun x => -x) ++ [(-(core.getD i 0))]) = ((core.take (i + 1)).map fun x => -x) from (by exact Cn.core_next (by omega)))) Hb)))))))
       ·
        refine ap ?_ (ap ?_ az) <;>
         first | omega | exact id | exact vcNot | exact vcG | exact vcH | (intro _; omega) | exact (fun _ h => h) | (intro h; simp at h; omega) | (simp only [List.length_cons, List.length_nil, List.length_append, List.length_map, List.length_set, List.length_replicate]; omega) | (intro h; simp [h]; done) | exact ⟨hm1, fun x hx => h12 _ (hm2 x hx)⟩ | exact ⟨hm3, fun x hx => h12 _ (hm4 x hx)⟩ | (constructor <;> omega) | (intro _; constructor <;> omega) | exact (fun h => Cn.core_fit hN.1 hN.2 h) | (simp only [List.length_cons, List.length_nil, List.length_map, List.length_take]; omega) | (intro _; rw [List.length_drop, List.length_take]; exact h12 _ (by omega)) | exact ⟨by omega, hcs, hxl (by omega), hm1, hm2⟩ | exact ⟨by omega, hcs, hxl (by omega)⟩ | exact ⟨by omega, fun x hx => h12 _ (hcs x hx), by rw [List.length_map, List.length_take]; exact h12 _ (by omega)⟩ | done
       ·
        refine ap ?_ az
        first | omega | exact id | exact vcNot | exact vcG | exact vcH | (intro _; omega) | exact (fun _ h => h) | (intro h; simp at h; omega) | (simp only [List.length_cons, List.length_nil, List.length_append, List.length_map, List.length_set, List.length_replicate]; omega) | (intro h; simp [h]; done) | exact ⟨hm1, fun x hx => h12 _ (hm2 x hx)⟩ | exact ⟨hm3, fun x hx => h12 _ (hm4 x hx)⟩ | (constructor <;> omega) | (intro _; constructor <;> omega) | exact (fun h => Cn.core_fit hN.1 hN.2 h) | (simp only [List.length_cons, List.length_nil, List.length_map, List.length_take]; omega) | (intro _; rw [List.length_drop, List.length_take]; exact h12 _ (by omega)) | exact ⟨by omega, hcs, hxl (by omega), hm1, hm2⟩ | exact ⟨by omega, hcs, hxl (by omega)⟩ | exact ⟨by omega, fun x hx => h12 _ (hcs x hx), by rw [List.length_map, List.length_take]; exact h12 _ (by omega)⟩ | done
       ·
        exact ⟨by omega, fun j hj => by rcases (by omega : j < i ∨ j = i) with h | rfl; exact hcok j h; exact hq⟩
       ·
        show core.length - (i + 1) < core.length - i
        omega
     ·
      have hco := Cn.core_yes (n := i) (by omega) hcok
      refine Ze (Fe (Fe (Fs (Ft (Sz hcx [(1000, .to 612)] [12] [30, 2, 27, 28, 29] [] (Sz hcx [(1001, .to 613)] [13] [] [] (Zs (Zv 612 0 701 23 (.intss []) (Tz hcx [(1000, .to 271)] [14] [13, 3] [] (Ft (Zs (Sz hcx [] [76, 77, 78] [1] [] (Zb (Zn [(271, .to 271), (612, .to 612), (613, .to 613), (700, .to 700), (701, .to 701)] [9, 12, 14, 76, 77, 78] (Lp (X := Nat × List (List Int)) (fun x0 => x0.1 ≤ p.length ∧ Cn.runC L [] (p.take x0.1) = some x0.2 ∧ x0.2.length ≤ x0.1 ∧ ∀ x ∈ x0.2, x.length ≤ 1000000000000) (fun x0 => ([(9, .row 700), (12, .loc 612 0), (14, .row 271), (76, .lines p), (77, .int (p.length : Int)), (78, .int (x0.1 : Int))], [(271, .mfun [1, 2, 3] [.clo 46 [.loc 613 0, .pto [.int N, .ls (.intss L)]], .clo 49 [.loc 612 0, .loc 613 0], .clo 50 [.loc 612 0]]), (612, .box [.row 701]), (613, .box [.clo 45 [.loc 612 0]]), (700, .row 3 (.ints ((core.take i).map fun x => -x))), (701, .row 23 (.intss x0.2))])) (fun x0 => p.length - x0.1) (0, ([] : List (List Int))) ?_ (Ex 78 (congrArg AV.int (show 0 = (0 : Int) from (by first | rfl | omega | (simp; done)))) Eb) Hb fun ⟨k, cs⟩ hI => ?_)))))))))))))))
      ·
       try dsimp only
       exact ⟨Nat.zero_le _, rfl, Nat.le_refl _, fun x hx => by cases hx⟩
      ·
       try dsimp only at hI
       obtain ⟨hi, hrun, hcl, hcs⟩ := hI
       have hki : k < p.length → _ := fun h => Cn.line_kind hf0 (i := k) h
       have hxl : k < p.length → _ := fun h => hm4 _ (Cn.getD_memL (d := (0, [])) (k := k) h)
       refine Sz hcx [] [79] [] [] (Zs (Zj (p := ((k : Int) < (p.length : Int))) (fun h4 => ?_) fun h4 => ?_))
       ·
        refine Zk (Ft (Zs (Zb (Sq hcx [(1002, .to 616)] [16] [79] [] [((0 : Int) ≤ (k : Int) ∧ (k : Int) < (p.length : Int))] ?_ (Zs (Zy [(16, .loc 616 0), (9, .row 700), (12, .loc 612 0), (14, .row 271), (76, .lines p), (77, .int (p.length : Int)), (78, .int (k : Int))] [(616, .box [.int ((p.getD k (0, [])).1), .ints ((p.getD k (0, [])).2)]), (271, .mfun [1, 2, 3] [.clo 46 [.loc 613 0, .pto [.int N, .ls (.intss L)]], .clo 49 [.loc 612 0, .loc 613 0], .clo 50 [.loc 612 0]]), (612, .box [.row 701]), (613, .box [.clo 45 [.loc 612 0]]), (700, .row 3 (.ints ((core.take i).map fun x => -x))), (701, .row 23 (.intss cs))] ?_))))))
        ·
         refine ap ?_ az
         first | omega | exact id | exact vcNot | exact vcG | exact vcH | (intro _; omega) | exact (fun _ h => h) | (intro h; simp at h; omega) | (simp only [List.length_cons, List.length_nil, List.length_append, List.length_map, List.length_set, List.length_replicate]; omega) | (intro h; simp [h]; done) | exact ⟨hm1, fun x hx => h12 _ (hm2 x hx)⟩ | exact ⟨hm3, fun x hx => h12 _ (hm4 x hx)⟩ | (constructor <;> omega) | (intro _; constructor <;> omega) | exact (fun h => Cn.core_fit hN.1 hN.2 h) | (simp only [List.length_cons, List.length_nil, List.length_map, List.length_take]; omega) | (intro _; rw [List.length_drop, List.length_take]; exact h12 _ (by omega)) | exact ⟨by omega, hcs, hxl (by omega), hm1, hm2⟩ | exact ⟨by omega, hcs, hxl (by omega)⟩ | exact ⟨by omega, fun x hx => h12 _ (hcs x hx), by rw [List.length_map, List.length_take]; exact h12 _ (by omega)⟩ | done
        rcases ((show _ from Cn.line_three hf0 (by omega)) : (p.getD k (0, [])).1 = 1 ∨ (p.getD k (0, [])).1 = 2 ∨ (p.getD k (0, [])).1 = 3) with hk | hk | hk
        ·
         rw [hk]
         refine Zt (Tq hcx [(612, .to 612), (613, .to 613), (1006, .to 701)] [89] [16] [616, 701] [(cs.length ≤ 1000000 ∧ (∀ x ∈ cs, x.length ≤ 1000000000000) ∧ ((p.getD k (0, [])).2).length ≤ 1000000000000 ∧ L.length ≤ maxLen ∧ ∀ x ∈ L, x.length ≤ 1000000000000)] ?_ (Ft (Zi (b := !(L.any fun y => Cn.alikeB y ((p.getD k (0, [])).2))) (fun h5 => ?_) fun h5 => ?_)))
         ·
          refine ap ?_ az
          first | omega | exact id | exact vcNot | exact vcG | exact vcH | (intro _; omega) | exact (fun _ h => h) | (intro h; simp at h; omega) | (simp only [List.length_cons, List.length_nil, List.length_append, List.length_map, List.length_set, List.length_replicate]; omega) | (intro h; simp [h]; done) | exact ⟨hm1, fun x hx => h12 _ (hm2 x hx)⟩ | exact ⟨hm3, fun x hx => h12 _ (hm4 x hx)⟩ | (constructor <;> omega) | (intro _; constructor <;> omega) | exact (fun h => Cn.core_fit hN.1 hN.2 h) | (simp only [List.length_cons, List.length_nil, List.length_map, List.length_take]; omega) | (intro _; rw [List.length_drop, List.length_take]; exact h12 _ (by omega)) | exact ⟨by omega, hcs, hxl (by omega), hm1, hm2⟩ | exact ⟨by omega, hcs, hxl (by omega)⟩ | exact ⟨by omega, fun x hx => h12 _ (hcs x hx), by rw [List.length_map, List.length_take]; exact h12 _ (by omega)⟩ | done
         ·
          have hki2 := hki (by omega)
          have hq := Cn.ntT h5
          have hok : Cn.okC L cs (p.getD k (0, [])) = false := by first | (rw [Cn.ok_1 hk]; exact hq) | (rw [Cn.ok_2 hk]; exact hq) | (rw [Cn.ok_3 hk]; exact hq)
          have hr := (Cn.chk_e4 hc0 hf0 hco).trans (congrArg (Cn.endC core) (Cn.run_stop (by omega) hrun hki2.1 hki2.2 hok))
          exact Sz hcx [] [6] [89, 9, 12, 14, 76, 77, 78] [612, 613, 701, 271, 700] (Zr (Fk (Fr (Fr (Fk (Fr (Rv hcx (congrArg AV.int (show 250 = (Cn.chkC N L p core) from (by first | exact hr.symm | (rw [hr, he]; done) | done))) [] rfl)))))))
         ·
          have hq := Cn.ntF h5
          have hok : Cn.okC L cs (p.getD k (0, [])) = true := by first | (rw [Cn.ok_1 hk]; exact hq) | (rw [Cn.ok_2 hk]; exact hq) | (rw [Cn.ok_3 hk]; exact hq)
          refine Zk (Fb (Ft (Tq hcx [] [78] [89] [] [Fit ((k : Int) + 1)] ?_ (Fn [(271, .to 271), (612, .to 612), (613, .to 613), (700, .to 700), (701, .to 701)] [9, 12, 14, 76, 77, 78] (Lr (k + 1, (Cn.nextC cs (p.getD k (0, [])))) ?_ ?_ (Ex 78 (congrArg AV.int (show ((k : Int) + 1) = ((k + 1) : Int) from (by first | rfl | omega | (simp; done)))) Eb) (Hx 701 (congrArg (fun x => AObj.row 23 (.intss x)) (show (cs ++ [((p.getD k (0, [])).2)]) = (Cn.nextC cs (p.getD k (0, []))) from (by first | exact Cn.next_1 (by omega) | exact Cn.next_3 hk))) Hb))))))
          ·
           refine ap ?_ az
           first | omega | exact id | exact vcNot | exact vcG | exact vcH | (intro _; omega) | exact (fun _ h => h) | (intro h; simp at h; omega) | (simp only [List.length_cons, List.length_nil, List.length_append, List.length_map, List.length_set, List.length_replicate]; omega) | (intro h; simp [h]; done) | exact ⟨hm1, fun x hx => h12 _ (hm2 x hx)⟩ | exact ⟨hm3, fun x hx => h12 _ (hm4 x hx)⟩ | (constructor <;> omega) | (intro _; constructor <;> omega) | exact (fun h => Cn.core_fit hN.1 hN.2 h) | (simp only [List.length_cons, List.length_nil, List.length_map, List.length_take]; omega) | (intro _; rw [List.length_drop, List.length_take]; exact h12 _ (by omega)) | exact ⟨by omega, hcs, hxl (by omega), hm1, hm2⟩ | exact ⟨by omega, hcs, hxl (by omega)⟩ | exact ⟨by omega, fun x hx => h12 _ (hcs x hx), by rw [List.length_map, List.length_take]; exact h12 _ (by omega)⟩ | done
          ·
           try dsimp only
           (have h8 := Cn.next_len cs (p.getD k (0, [])); exact ⟨by omega, Cn.run_next (by omega) hrun (hki (by omega)).1 (hki (by omega)).2 hok, by omega, fun x hx => by rcases Cn.next_mem hx with h | h; exact hcs x h; rw [h]; exact hxl (by omega)⟩)
          ·
           show p.length - (k + 1) < p.length - k
           omega
        ·
         rw [hk]
         refine Zt (Tq hcx [(612, .to 612), (613, .to 613), (1006, .to 701)] [89] [16] [616, 701] [(cs.length ≤ 1000000 ∧ (∀ x ∈ cs, x.length ≤ 1000000000000) ∧ ((p.getD k (0, [])).2).length ≤ 1000000000000)] ?_ (Ft (Zi (b := !(Cn.flwV cs ((p.getD k (0, [])).2))) (fun h6 => ?_) fun h6 => ?_)))
         ·
          refine ap ?_ az
          first | omega | exact id | exact vcNot | exact vcG | exact vcH | (intro _; omega) | exact (fun _ h => h) | (intro h; simp at h; omega) | (simp only [List.length_cons, List.length_nil, List.length_append, List.length_map, List.length_set, List.length_replicate]; omega) | (intro h; simp [h]; done) | exact ⟨hm1, fun x hx => h12 _ (hm2 x hx)⟩ | exact ⟨hm3, fun x hx => h12 _ (hm4 x hx)⟩ | (constructor <;> omega) | (intro _; constructor <;> omega) | exact (fun h => Cn.core_fit hN.1 hN.2 h) | (simp only [List.length_cons, List.length_nil, List.length_map, List.length_take]; omega) | (intro _; rw [List.length_drop, List.length_take]; exact h12 _ (by omega)) | exact ⟨by omega, hcs, hxl (by omega), hm1, hm2⟩ | exact ⟨by omega, hcs, hxl (by omega)⟩ | exact ⟨by omega, fun x hx => h12 _ (hcs x hx), by rw [List.length_map, List.length_take]; exact h12 _ (by omega)⟩ | done
         ·
          have hki2 := hki (by omega)
          have hq := Cn.ntT h6
          have hok : Cn.okC L cs (p.getD k (0, [])) = false := by first | (rw [Cn.ok_1 hk]; exact hq) | (rw [Cn.ok_2 hk]; exact hq) | (rw [Cn.ok_3 hk]; exact hq)
          have hr := (Cn.chk_e4 hc0 hf0 hco).trans (congrArg (Cn.endC core) (Cn.run_stop (by omega) hrun hki2.1 hki2.2 hok))
          exact Sz hcx [] [6] [89, 9, 12, 14, 76, 77, 78] [612, 613, 701, 271, 700] (Zr (Fk (Fr (Fr (Fk (Fr (Rv hcx (congrArg AV.int (show 250 = (Cn.chkC N L p core) from (by first | exact hr.symm | (rw [hr, he]; done) | done))) [] rfl)))))))
         ·
          have hq := Cn.ntF h6
          have hok : Cn.okC L cs (p.getD k (0, [])) = true := by first | (rw [Cn.ok_1 hk]; exact hq) | (rw [Cn.ok_2 hk]; exact hq) | (rw [Cn.ok_3 hk]; exact hq)
          refine Zk (Fb (Ft (Tq hcx [] [78] [89] [] [Fit ((k : Int) + 1)] ?_ (Fn [(271, .to 271), (612, .to 612), (613, .to 613), (700, .to 700), (701, .to 701)] [9, 12, 14, 76, 77, 78] (Lr (k + 1, (Cn.nextC cs (p.getD k (0, [])))) ?_ ?_ (Ex 78 (congrArg AV.int (show ((k : Int) + 1) = ((k + 1) : Int) from (by first | rfl | omega | (simp; done)))) Eb) (Hx 701 (congrArg (fun x => AObj.row 23 (.intss x)) (show (cs ++ [((p.getD k (0, [])).2)]) = (Cn.nextC cs (p.getD k (0, []))) from (by first | exact Cn.next_1 (by omega) | exact Cn.next_3 hk))) Hb))))))
          ·
           refine ap ?_ az
           first | omega | exact id | exact vcNot | exact vcG | exact vcH | (intro _; omega) | exact (fun _ h => h) | (intro h; simp at h; omega) | (simp only [List.length_cons, List.length_nil, List.length_append, List.length_map, List.length_set, List.length_replicate]; omega) | (intro h; simp [h]; done) | exact ⟨hm1, fun x hx => h12 _ (hm2 x hx)⟩ | exact ⟨hm3, fun x hx => h12 _ (hm4 x hx)⟩ | (constructor <;> omega) | (intro _; constructor <;> omega) | exact (fun h => Cn.core_fit hN.1 hN.2 h) | (simp only [List.length_cons, List.length_nil, List.length_map, List.length_take]; omega) | (intro _; rw [List.length_drop, List.length_take]; exact h12 _ (by omega)) | exact ⟨by omega, hcs, hxl (by omega), hm1, hm2⟩ | exact ⟨by omega, hcs, hxl (by omega)⟩ | exact ⟨by omega, fun x hx => h12 _ (hcs x hx), by rw [List.length_map, List.length_take]; exact h12 _ (by omega)⟩ | done
          ·
           try dsimp only
           (have h8 := Cn.next_len cs (p.getD k (0, [])); exact ⟨by omega, Cn.run_next (by omega) hrun (hki (by omega)).1 (hki (by omega)).2 hok, by omega, fun x hx => by rcases Cn.next_mem hx with h | h; exact hcs x h; rw [h]; exact hxl (by omega)⟩)
          ·
           show p.length - (k + 1) < p.length - k
           omega
        ·
         rw [hk]
         refine Zt (Tq hcx [(612, .to 612), (1006, .to 701)] [89] [16] [616, 701] [(cs.length ≤ 1000000 ∧ (∀ x ∈ cs, x.length ≤ 1000000000000) ∧ ((p.getD k (0, [])).2).length ≤ 1000000000000)] ?_ (Ft (Zi (b := !(decide (0 ≤ Cn.idxF (fun y => Cn.alikeB y ((p.getD k (0, [])).2)) cs))) (fun h7 => ?_) fun h7 => ?_)))
         ·
          refine ap ?_ az
          first | omega | exact id | exact vcNot | exact vcG | exact vcH | (intro _; omega) | exact (fun _ h => h) | (intro h; simp at h; omega) | (simp only [List.length_cons, List.length_nil, List.length_append, List.length_map, List.length_set, List.length_replicate]; omega) | (intro h; simp [h]; done) | exact ⟨hm1, fun x hx => h12 _ (hm2 x hx)⟩ | exact ⟨hm3, fun x hx => h12 _ (hm4 x hx)⟩ | (constructor <;> omega) | (intro _; constructor <;> omega) | exact (fun h => Cn.core_fit hN.1 hN.2 h) | (simp only [List.length_cons, List.length_nil, List.length_map, List.length_take]; omega) | (intro _; rw [List.length_drop, List.length_take]; exact h12 _ (by omega)) | exact ⟨by omega, hcs, hxl (by omega), hm1, hm2⟩ | exact ⟨by omega, hcs, hxl (by omega)⟩ | exact ⟨by omega, fun x hx => h12 _ (hcs x hx), by rw [List.length_map, List.length_take]; exact h12 _ (by omega)⟩ | done
         ·
          have hki2 := hki (by omega)
          have hq := Cn.ntT h7
          have hok : Cn.okC L cs (p.getD k (0, [])) = false := by first | (rw [Cn.ok_1 hk]; exact hq) | (rw [Cn.ok_2 hk]; exact hq) | (rw [Cn.ok_3 hk]; exact hq)
          have hr := (Cn.chk_e4 hc0 hf0 hco).trans (congrArg (Cn.endC core) (Cn.run_stop (by omega) hrun hki2.1 hki2.2 hok))
          exact Sz hcx [] [6] [89, 9, 12, 14, 76, 77, 78] [612, 701, 271, 613, 700] (Zr (Fk (Fr (Fr (Fk (Fr (Rv hcx (congrArg AV.int (show 250 = (Cn.chkC N L p core) from (by first | exact hr.symm | (rw [hr, he]; done) | done))) [] rfl)))))))
         ·
          have hq := Cn.ntF h7
          have hok : Cn.okC L cs (p.getD k (0, [])) = true := by first | (rw [Cn.ok_1 hk]; exact hq) | (rw [Cn.ok_2 hk]; exact hq) | (rw [Cn.ok_3 hk]; exact hq)
          refine Zk (Fb (Ft (Tq hcx [] [78] [89] [] [Fit ((k : Int) + 1)] ?_ (Fn [(271, .to 271), (612, .to 612), (613, .to 613), (700, .to 700), (701, .to 701)] [9, 12, 14, 76, 77, 78] (Lr (k + 1, (Cn.nextC cs (p.getD k (0, [])))) ?_ ?_ (Ex 78 (congrArg AV.int (show ((k : Int) + 1) = ((k + 1) : Int) from (by first | rfl | omega | (simp; done)))) Eb) (Hx 701 (congrArg (fun x => AObj.row 23 (.intss x)) (show (Cn.dropC cs ((p.getD k (0, [])).2)) = (Cn.nextC cs (p.getD k (0, []))) from (by first | exact Cn.next_1 (by omega) | exact Cn.next_3 hk))) Hb))))))
          ·
           refine ap ?_ az
           first | omega | exact id | exact vcNot | exact vcG | exact vcH | (intro _; omega) | exact (fun _ h => h) | (intro h; simp at h; omega) | (simp only [List.length_cons, List.length_nil, List.length_append, List.length_map, List.length_set, List.length_replicate]; omega) | (intro h; simp [h]; done) | exact ⟨hm1, fun x hx => h12 _ (hm2 x hx)⟩ | exact ⟨hm3, fun x hx => h12 _ (hm4 x hx)⟩ | (constructor <;> omega) | (intro _; constructor <;> omega) | exact (fun h => Cn.core_fit hN.1 hN.2 h) | (simp only [List.length_cons, List.length_nil, List.length_map, List.length_take]; omega) | (intro _; rw [List.length_drop, List.length_take]; exact h12 _ (by omega)) | exact ⟨by omega, hcs, hxl (by omega), hm1, hm2⟩ | exact ⟨by omega, hcs, hxl (by omega)⟩ | exact ⟨by omega, fun x hx => h12 _ (hcs x hx), by rw [List.length_map, List.length_take]; exact h12 _ (by omega)⟩ | done
          ·
           try dsimp only
           (have h8 := Cn.next_len cs (p.getD k (0, [])); exact ⟨by omega, Cn.run_next (by omega) hrun (hki (by omega)).1 (hki (by omega)).2 hok, by omega, fun x hx => by rcases Cn.next_mem hx with h | h; exact hcs x h; rw [h]; exact hxl (by omega)⟩)
          ·
           show p.length - (k + 1) < p.length - k
           omega
       ·
        rw [show k = p.length by omega, List.take_length] at hrun
        refine Ze (Fe (Fe (Fs (Ft (Zs (Zs (Zn [(271, .to 271), (612, .to 612), (613, .to 613), (700, .frz), (701, .frz)] [79, 9, 12, 14, 76, 77, 78] (Tq hcx [] [94] [79, 9, 12, 14, 76, 77, 78] [271, 612, 613] [(cs.length ≤ 1000000000 ∧ (∀ x ∈ cs, x.length ≤ maxLen) ∧ ((core.take i).map fun x => -x).length ≤ maxLen)] ?_ (Ft (Zi (b := !(Cn.flwV cs ((core.take i).map fun x => -x))) (fun h8 => ?_) fun h8 => ?_))))))))))
        ·
         refine ap ?_ az
         first | omega | exact id | exact vcNot | exact vcG | exact vcH | (intro _; omega) | exact (fun _ h => h) | (intro h; simp at h; omega) | (simp only [List.length_cons, List.length_nil, List.length_append, List.length_map, List.length_set, List.length_replicate]; omega) | (intro h; simp [h]; done) | exact ⟨hm1, fun x hx => h12 _ (hm2 x hx)⟩ | exact ⟨hm3, fun x hx => h12 _ (hm4 x hx)⟩ | (constructor <;> omega) | (intro _; constructor <;> omega) | exact (fun h => Cn.core_fit hN.1 hN.2 h) | (simp only [List.length_cons, List.length_nil, List.length_map, List.length_take]; omega) | (intro _; rw [List.length_drop, List.length_take]; exact h12 _ (by omega)) | exact ⟨by omega, hcs, hxl (by omega), hm1, hm2⟩ | exact ⟨by omega, hcs, hxl (by omega)⟩ | exact ⟨by omega, fun x hx => h12 _ (hcs x hx), by rw [List.length_map, List.length_take]; exact h12 _ (by omega)⟩ | done
        ·
         have hq := Cn.ntT h8
         rw [show i = core.length by omega, List.take_length] at hq
         have hr := (Cn.chk_e4 hc0 hf0 hco).trans (congrArg (Cn.endC core) hrun)
         have he : Cn.endC core (some cs) = 250 := by unfold Cn.endC; exact if_neg (by rw [hq]; simp)
         exact Sz hcx [] [6] [94] [] (Zr (Fr (Rv hcx (congrArg AV.int (show 250 = (Cn.chkC N L p core) from (by first | exact hr.symm | (rw [hr, he]; done) | done))) [] rfl)))
        ·
         have hq := Cn.ntF h8
         rw [show i = core.length by omega, List.take_length] at hq
         have hr := (Cn.chk_e4 hc0 hf0 hco).trans (congrArg (Cn.endC core) hrun)
         have he : Cn.endC core (some cs) = 0 := by unfold Cn.endC; exact if_pos hq
         exact Zk (Ft (Sz hcx [] [6] [94] [] (Zr (Rv hcx (congrArg AV.int (show 0 = (Cn.chkC N L p core) from (by first | exact hr.symm | (rw [hr, he]; done) | done))) [] rfl))))
 ·
  cases hσ
end Go.Proofs.YtbpbndlgfiammaaGreatDoor.En
namespace Go.Proofs
open Go.Shelf
def Tryz.shSplit_ren : Go.Shelf.Ren := ⟨fun | 146 => 87 | 221 => 117 | 268 => 137 | 138 => 138 | 143 => 88 | 195 => 164 | 197 => 165 | 218 => 166 | 219 => 118 | 260 => 188 | 217 => 139 | 225 => 140 | 224 => 115 | 267 => 141 | 266 => 167 | 314 => 168 | n => n, fun | 9 => 9 | 31 => 105 | 3 => 3 | 4 => 4 | 0 => 0 | 105 => 169 | 21 => 21 | 5 => 5 | 46 => 133 | 119 => 202 | 139 => 205 | 138 => 204 | 146 => 144 | 51 => 143 | n => n, fun | 1 => 0 | 3 => 6 | 4 => 7 | n => n⟩
theorem Tryz.shSplit : Go.Proofs.Lays.n146 Tryz.prog Tryz.shSplit_ren := {
  mixed := by kernel_rfl
  f138 := Tryz.func138.trans (congrArg some (by kernel_rfl))
  f143 := Tryz.func88.trans (congrArg some (by kernel_rfl))
  f146 := Tryz.func87.trans (congrArg some (by kernel_rfl))
  f195 := Tryz.func164.trans (congrArg some (by kernel_rfl))
  f197 := Tryz.func165.trans (congrArg some (by kernel_rfl))
  f217 := Tryz.func139.trans (congrArg some (by kernel_rfl))
  f218 := Tryz.func166.trans (congrArg some (by kernel_rfl))
  f219 := Tryz.func118.trans (congrArg some (by kernel_rfl))
  f221 := Tryz.func117.trans (congrArg some (by kernel_rfl))
  f224 := Tryz.func115.trans (congrArg some (by kernel_rfl))
  f225 := Tryz.func140.trans (congrArg some (by kernel_rfl))
  f260 := Tryz.func188.trans (congrArg some (by kernel_rfl))
  f266 := Tryz.func167.trans (congrArg some (by kernel_rfl))
  f267 := Tryz.func141.trans (congrArg some (by kernel_rfl))
  f268 := Tryz.func137.trans (congrArg some (by kernel_rfl))
  f314 := Tryz.func168.trans (congrArg some (by kernel_rfl))
  t0 := Tryz.underlying0
  a0 := Tryz.isAgg0
  z0 := Tryz.sizeOf0
  v0 := Tryz.zeroValue0
  t3 := Tryz.underlying3
  a3 := Tryz.isAgg3
  z3 := Tryz.sizeOf3
  v3 := Tryz.zeroValue3
  t4 := Tryz.underlying4
  a4 := Tryz.isAgg4
  z4 := Tryz.sizeOf4
  v4 := Tryz.zeroValue4
  t5 := Tryz.underlying5
  a5 := Tryz.isAgg5
  z5 := Tryz.sizeOf5
  v5 := Tryz.zeroValue5
  t9 := Tryz.underlying9
  a9 := Tryz.isAgg9
  z9 := Tryz.sizeOf9
  v9 := Tryz.zeroValue9
  t21 := Tryz.underlying21
  a21 := Tryz.isAgg21
  z21 := Tryz.sizeOf21
  v21 := Tryz.zeroValue21
  t31 := Tryz.underlying105
  a31 := Tryz.isAgg105
  z31 := Tryz.sizeOf105
  v31 := Tryz.zeroValue105
  t46 := Tryz.underlying133
  a46 := Tryz.isAgg133
  z46 := Tryz.sizeOf133
  v46 := Tryz.zeroValue133
  t51 := Tryz.underlying143
  a51 := Tryz.isAgg143
  z51 := Tryz.sizeOf143
  v51 := Tryz.zeroValue143
  t105 := Tryz.underlying169
  a105 := Tryz.isAgg169
  z105 := Tryz.sizeOf169
  v105 := Tryz.zeroValue169
  t119 := Tryz.underlying202
  a119 := Tryz.isAgg202
  z119 := Tryz.sizeOf202
  t138 := Tryz.underlying204
  a138 := Tryz.isAgg204
  z138 := Tryz.sizeOf204
  v138 := Tryz.zeroValue204
  t139 := Tryz.underlying205
  a139 := Tryz.isAgg205
  z139 := Tryz.sizeOf205
  v139 := Tryz.zeroValue205
  t146 := Tryz.underlying144
  a146 := Tryz.isAgg144
  z146 := Tryz.sizeOf144
  v146 := Tryz.zeroValue144
  g1 := by kernel_rfl
  g3 := by kernel_rfl
  g4 := by kernel_rfl }
def Tryz.shIndex_ren : Go.Shelf.Ren := ⟨fun | 143 => 88 | 219 => 118 | 217 => 139 | 225 => 140 | 224 => 115 | 267 => 141 | 266 => 167 | 314 => 168 | n => n, fun | 9 => 9 | 3 => 3 | 4 => 4 | 5 => 5 | 46 => 133 | 146 => 144 | 51 => 143 | n => n, fun | 1 => 0 | n => n⟩
theorem Tryz.shIndex : Go.Proofs.Lays.n143 Tryz.prog Tryz.shIndex_ren := {
  mixed := by kernel_rfl
  f143 := Tryz.func88.trans (congrArg some (by kernel_rfl))
  f217 := Tryz.func139.trans (congrArg some (by kernel_rfl))
  f219 := Tryz.func118.trans (congrArg some (by kernel_rfl))
  f224 := Tryz.func115.trans (congrArg some (by kernel_rfl))
  f225 := Tryz.func140.trans (congrArg some (by kernel_rfl))
  f266 := Tryz.func167.trans (congrArg some (by kernel_rfl))
  f267 := Tryz.func141.trans (congrArg some (by kernel_rfl))
  f314 := Tryz.func168.trans (congrArg some (by kernel_rfl))
  t3 := Tryz.underlying3
  a3 := Tryz.isAgg3
  z3 := Tryz.sizeOf3
  v3 := Tryz.zeroValue3
  t4 := Tryz.underlying4
  a4 := Tryz.isAgg4
  z4 := Tryz.sizeOf4
  v4 := Tryz.zeroValue4
  t5 := Tryz.underlying5
  a5 := Tryz.isAgg5
  z5 := Tryz.sizeOf5
  v5 := Tryz.zeroValue5
  t9 := Tryz.underlying9
  a9 := Tryz.isAgg9
  z9 := Tryz.sizeOf9
  v9 := Tryz.zeroValue9
  t46 := Tryz.underlying133
  a46 := Tryz.isAgg133
  z46 := Tryz.sizeOf133
  v46 := Tryz.zeroValue133
  t51 := Tryz.underlying143
  a51 := Tryz.isAgg143
  z51 := Tryz.sizeOf143
  v51 := Tryz.zeroValue143
  t146 := Tryz.underlying144
  a146 := Tryz.isAgg144
  z146 := Tryz.sizeOf144
  v146 := Tryz.zeroValue144
  g1 := by kernel_rfl }
def Tryz.shAtoi_ren : Go.Shelf.Ren := ⟨fun | 172 => 89 | 244 => 119 | 245 => 120 | 247 => 142 | 279 => 143 | 280 => 144 | 281 => 145 | 282 => 146 | 287 => 169 | 316 => 170 | 171 => 90 | 205 => 171 | 321 => 189 | 322 => 190 | 243 => 121 | 246 => 147 | 283 => 131 | 284 => 132 | 285 => 133 | 286 => 134 | 129 => 157 | 317 => 160 | 318 => 161 | 319 => 162 | 320 => 163 | 337 => 186 | 338 => 187 | n => n, fun | 9 => 9 | 3 => 3 | 75 => 109 | 76 => 110 | 4 => 4 | 5 => 5 | 167 => 148 | 37 => 34 | 0 => 0 | 85 => 149 | 2 => 2 | 168 => 151 | 53 => 128 | 175 => 172 | 46 => 133 | 210 => 176 | 127 => 191 | 145 => 194 | 143 => 192 | 21 => 21 | 171 => 138 | 173 => 141 | 212 => 166 | 51 => 143 | 20 => 20 | 213 => 167 | 232 => 200 | 233 => 201 | 80 => 207 | n => n, fun | 15 => 2 | 16 => 3 | 17 => 1 | 18 => 4 | 19 => 5 | n => n⟩
theorem Tryz.shAtoi : Go.Proofs.LaysC.n172 Tryz.prog Tryz.shAtoi_ren := {
  mixed := by kernel_rfl
  f129 := Tryz.func157.trans (congrArg some (by kernel_rfl))
  f171 := Tryz.func90.trans (congrArg some (by kernel_rfl))
  f172 := Tryz.func89.trans (congrArg some (by kernel_rfl))
  f205 := Tryz.func171.trans (congrArg some (by kernel_rfl))
  f243 := Tryz.func121.trans (congrArg some (by kernel_rfl))
  f244 := Tryz.func119.trans (congrArg some (by kernel_rfl))
  f245 := Tryz.func120.trans (congrArg some (by kernel_rfl))
  f246 := Tryz.func147.trans (congrArg some (by kernel_rfl))
  f247 := Tryz.func142.trans (congrArg some (by kernel_rfl))
  f279 := Tryz.func143.trans (congrArg some (by kernel_rfl))
  f280 := Tryz.func144.trans (congrArg some (by kernel_rfl))
  f281 := Tryz.func145.trans (congrArg some (by kernel_rfl))
  f282 := Tryz.func146.trans (congrArg some (by kernel_rfl))
  f283 := Tryz.func131.trans (congrArg some (by kernel_rfl))
  f284 := Tryz.func132.trans (congrArg some (by kernel_rfl))
  f285 := Tryz.func133.trans (congrArg some (by kernel_rfl))
  f286 := Tryz.func134.trans (congrArg some (by kernel_rfl))
  f287 := Tryz.func169.trans (congrArg some (by kernel_rfl))
  f316 := Tryz.func170.trans (congrArg some (by kernel_rfl))
  f317 := Tryz.func160.trans (congrArg some (by kernel_rfl))
  f318 := Tryz.func161.trans (congrArg some (by kernel_rfl))
  f319 := Tryz.func162.trans (congrArg some (by kernel_rfl))
  f320 := Tryz.func163.trans (congrArg some (by kernel_rfl))
  f321 := Tryz.func189.trans (congrArg some (by kernel_rfl))
  f322 := Tryz.func190.trans (congrArg some (by kernel_rfl))
  f337 := Tryz.func186.trans (congrArg some (by kernel_rfl))
  f338 := Tryz.func187.trans (congrArg some (by kernel_rfl))
  t0 := Tryz.underlying0
  a0 := Tryz.isAgg0
  z0 := Tryz.sizeOf0
  v0 := Tryz.zeroValue0
  t2 := Tryz.underlying2
  a2 := Tryz.isAgg2
  z2 := Tryz.sizeOf2
  v2 := Tryz.zeroValue2
  t3 := Tryz.underlying3
  a3 := Tryz.isAgg3
  z3 := Tryz.sizeOf3
  v3 := Tryz.zeroValue3
  t4 := Tryz.underlying4
  a4 := Tryz.isAgg4
  z4 := Tryz.sizeOf4
  v4 := Tryz.zeroValue4
  t5 := Tryz.underlying5
  a5 := Tryz.isAgg5
  z5 := Tryz.sizeOf5
  v5 := Tryz.zeroValue5
  t9 := Tryz.underlying9
  a9 := Tryz.isAgg9
  z9 := Tryz.sizeOf9
  v9 := Tryz.zeroValue9
  t20 := Tryz.underlying20
  a20 := Tryz.isAgg20
  z20 := Tryz.sizeOf20
  v20 := Tryz.zeroValue20
  t21 := Tryz.underlying21
  a21 := Tryz.isAgg21
  z21 := Tryz.sizeOf21
  v21 := Tryz.zeroValue21
  t37 := Tryz.underlying34
  a37 := Tryz.isAgg34
  z37 := Tryz.sizeOf34
  v37 := Tryz.zeroValue34
  t46 := Tryz.underlying133
  a46 := Tryz.isAgg133
  z46 := Tryz.sizeOf133
  v46 := Tryz.zeroValue133
  t51 := Tryz.underlying143
  a51 := Tryz.isAgg143
  z51 := Tryz.sizeOf143
  v51 := Tryz.zeroValue143
  t53 := Tryz.underlying128
  a53 := Tryz.isAgg128
  z53 := Tryz.sizeOf128
  v53 := Tryz.zeroValue128
  t75 := Tryz.underlying109
  a75 := Tryz.isAgg109
  z75 := Tryz.sizeOf109
  v75 := Tryz.zeroValue109
  t76 := Tryz.underlying110
  a76 := Tryz.isAgg110
  z76 := Tryz.sizeOf110
  v76 := Tryz.zeroValue110
  t85 := Tryz.underlying149
  a85 := Tryz.isAgg149
  z85 := Tryz.sizeOf149
  v85 := Tryz.zeroValue149
  t127 := Tryz.underlying191
  a127 := Tryz.isAgg191
  z127 := Tryz.sizeOf191
  v127 := Tryz.zeroValue191
  t143 := Tryz.underlying192
  a143 := Tryz.isAgg192
  z143 := Tryz.sizeOf192
  v143 := Tryz.zeroValue192
  t145 := Tryz.underlying194
  a145 := Tryz.isAgg194
  z145 := Tryz.sizeOf194
  v145 := Tryz.zeroValue194
  t167 := Tryz.underlying148
  a167 := Tryz.isAgg148
  z167 := Tryz.sizeOf148
  v167 := Tryz.zeroValue148
  t168 := Tryz.underlying151
  a168 := Tryz.isAgg151
  z168 := Tryz.sizeOf151
  v168 := Tryz.zeroValue151
  t171 := Tryz.underlying138
  a171 := Tryz.isAgg138
  z171 := Tryz.sizeOf138
  v171 := Tryz.zeroValue138
  t173 := Tryz.underlying141
  a173 := Tryz.isAgg141
  z173 := Tryz.sizeOf141
  v173 := Tryz.zeroValue141
  t175 := Tryz.underlying172
  a175 := Tryz.isAgg172
  z175 := Tryz.sizeOf172
  v175 := Tryz.zeroValue172
  t210 := Tryz.underlying176
  a210 := Tryz.isAgg176
  z210 := Tryz.sizeOf176
  v210 := Tryz.zeroValue176
  t212 := Tryz.underlying166
  a212 := Tryz.isAgg166
  z212 := Tryz.sizeOf166
  v212 := Tryz.zeroValue166
  t213 := Tryz.underlying167
  a213 := Tryz.isAgg167
  z213 := Tryz.sizeOf167
  t232 := Tryz.underlying200
  a232 := Tryz.isAgg200
  z232 := Tryz.sizeOf200
  v232 := Tryz.zeroValue200
  t233 := Tryz.underlying201
  a233 := Tryz.isAgg201
  z233 := Tryz.sizeOf201
  v233 := Tryz.zeroValue201
  g15 := by kernel_rfl
  g16 := by kernel_rfl
  g17 := by kernel_rfl
  g18 := by kernel_rfl
  g19 := by kernel_rfl
  t80 := Tryz.underlying207
  a80 := Tryz.isAgg207
  z80 := Tryz.sizeOf207
  v80 := Tryz.zeroValue207
  i0 := by kernel_rfl
  i2 := by kernel_rfl
  i3 := by kernel_rfl
  i4 := by kernel_rfl
  i5 := by kernel_rfl
  i9 := by kernel_rfl
  i20 := by kernel_rfl
  i21 := by kernel_rfl
  i37 := by kernel_rfl
  i46 := by kernel_rfl
  i51 := by kernel_rfl
  i53 := by kernel_rfl
  i75 := by kernel_rfl
  i76 := by kernel_rfl
  i80 := by kernel_rfl
  i85 := by kernel_rfl
  i127 := by kernel_rfl
  i143 := by kernel_rfl
  i145 := by kernel_rfl
  i167 := by kernel_rfl
  i168 := by kernel_rfl
  i171 := by kernel_rfl
  i173 := by kernel_rfl
  i175 := by kernel_rfl
  i210 := by kernel_rfl
  i212 := by kernel_rfl
  i232 := by kernel_rfl
  i233 := by kernel_rfl
  m15 := by kernel_rfl
  m16 := by kernel_rfl
  m17 := by kernel_rfl
  m18 := by kernel_rfl
  m19 := by kernel_rfl
  c0 := by kernel_rfl
  c2 := by kernel_rfl
  c3 := by kernel_rfl
  c4 := by kernel_rfl
  c5 := by kernel_rfl
  c9 := by kernel_rfl
  c20 := by kernel_rfl
  c21 := by kernel_rfl
  c37 := by kernel_rfl
  c46 := by kernel_rfl
  c51 := by kernel_rfl
  c53 := by kernel_rfl
  c75 := by kernel_rfl
  c76 := by kernel_rfl
  c80 := by kernel_rfl
  c85 := by kernel_rfl
  c127 := by kernel_rfl
  c143 := by kernel_rfl
  c145 := by kernel_rfl
  c167 := by kernel_rfl
  c168 := by kernel_rfl
  c171 := by kernel_rfl
  c173 := by kernel_rfl
  c175 := by kernel_rfl
  c210 := by kernel_rfl
  c212 := by kernel_rfl
  c213 := by kernel_rfl
  c232 := by kernel_rfl
  c233 := by kernel_rfl }
def Tryz.shItoa_ren : Go.Shelf.Ren := ⟨fun | 171 => 90 | 243 => 121 | 246 => 147 | 283 => 131 | 284 => 132 | 285 => 133 | 286 => 134 | 129 => 157 | 317 => 160 | 318 => 161 | 319 => 162 | 320 => 163 | 337 => 186 | 338 => 187 | n => n, fun | 3 => 3 | 9 => 9 | 2 => 2 | 4 => 4 | 171 => 138 | 0 => 0 | 53 => 128 | 37 => 34 | 5 => 5 | 173 => 141 | 212 => 166 | 51 => 143 | 20 => 20 | 213 => 167 | 46 => 133 | 232 => 200 | 233 => 201 | n => n, fun | 17 => 1 | 18 => 4 | 19 => 5 | n => n⟩
theorem Tryz.shItoa : Go.Proofs.LaysM.n171 Tryz.prog Tryz.shItoa_ren := {
  mixed := by kernel_rfl
  f129 := Tryz.func157.trans (congrArg some (by kernel_rfl))
  f171 := Tryz.func90.trans (congrArg some (by kernel_rfl))
  f243 := Tryz.func121.trans (congrArg some (by kernel_rfl))
  f246 := Tryz.func147.trans (congrArg some (by kernel_rfl))
  f283 := Tryz.func131.trans (congrArg some (by kernel_rfl))
  f284 := Tryz.func132.trans (congrArg some (by kernel_rfl))
  f285 := Tryz.func133.trans (congrArg some (by kernel_rfl))
  f286 := Tryz.func134.trans (congrArg some (by kernel_rfl))
  f317 := Tryz.func160.trans (congrArg some (by kernel_rfl))
  f318 := Tryz.func161.trans (congrArg some (by kernel_rfl))
  f319 := Tryz.func162.trans (congrArg some (by kernel_rfl))
  f320 := Tryz.func163.trans (congrArg some (by kernel_rfl))
  f337 := Tryz.func186.trans (congrArg some (by kernel_rfl))
  f338 := Tryz.func187.trans (congrArg some (by kernel_rfl))
  t0 := Tryz.underlying0
  a0 := Tryz.isAgg0
  z0 := Tryz.sizeOf0
  v0 := Tryz.zeroValue0
  t2 := Tryz.underlying2
  a2 := Tryz.isAgg2
  z2 := Tryz.sizeOf2
  v2 := Tryz.zeroValue2
  t3 := Tryz.underlying3
  a3 := Tryz.isAgg3
  z3 := Tryz.sizeOf3
  v3 := Tryz.zeroValue3
  t4 := Tryz.underlying4
  a4 := Tryz.isAgg4
  z4 := Tryz.sizeOf4
  v4 := Tryz.zeroValue4
  t5 := Tryz.underlying5
  a5 := Tryz.isAgg5
  z5 := Tryz.sizeOf5
  v5 := Tryz.zeroValue5
  t9 := Tryz.underlying9
  a9 := Tryz.isAgg9
  z9 := Tryz.sizeOf9
  v9 := Tryz.zeroValue9
  t20 := Tryz.underlying20
  a20 := Tryz.isAgg20
  z20 := Tryz.sizeOf20
  v20 := Tryz.zeroValue20
  t37 := Tryz.underlying34
  a37 := Tryz.isAgg34
  z37 := Tryz.sizeOf34
  v37 := Tryz.zeroValue34
  t46 := Tryz.underlying133
  a46 := Tryz.isAgg133
  z46 := Tryz.sizeOf133
  v46 := Tryz.zeroValue133
  t51 := Tryz.underlying143
  a51 := Tryz.isAgg143
  z51 := Tryz.sizeOf143
  v51 := Tryz.zeroValue143
  t53 := Tryz.underlying128
  a53 := Tryz.isAgg128
  z53 := Tryz.sizeOf128
  v53 := Tryz.zeroValue128
  t171 := Tryz.underlying138
  a171 := Tryz.isAgg138
  z171 := Tryz.sizeOf138
  v171 := Tryz.zeroValue138
  t173 := Tryz.underlying141
  a173 := Tryz.isAgg141
  z173 := Tryz.sizeOf141
  v173 := Tryz.zeroValue141
  t212 := Tryz.underlying166
  a212 := Tryz.isAgg166
  z212 := Tryz.sizeOf166
  v212 := Tryz.zeroValue166
  t213 := Tryz.underlying167
  a213 := Tryz.isAgg167
  z213 := Tryz.sizeOf167
  t232 := Tryz.underlying200
  a232 := Tryz.isAgg200
  z232 := Tryz.sizeOf200
  v232 := Tryz.zeroValue200
  t233 := Tryz.underlying201
  a233 := Tryz.isAgg201
  z233 := Tryz.sizeOf201
  v233 := Tryz.zeroValue201
  g17 := by kernel_rfl
  g18 := by kernel_rfl
  g19 := by kernel_rfl
  i0 := by kernel_rfl
  i2 := by kernel_rfl
  i3 := by kernel_rfl
  i4 := by kernel_rfl
  i5 := by kernel_rfl
  i9 := by kernel_rfl
  i20 := by kernel_rfl
  i37 := by kernel_rfl
  i46 := by kernel_rfl
  i51 := by kernel_rfl
  i53 := by kernel_rfl
  i171 := by kernel_rfl
  i173 := by kernel_rfl
  i212 := by kernel_rfl
  i232 := by kernel_rfl
  i233 := by kernel_rfl
  m17 := by kernel_rfl
  m18 := by kernel_rfl
  m19 := by kernel_rfl }
def Tryz.shAppU_ren : Go.Shelf.Ren := ⟨fun | 288 => 111 | 283 => 131 | 284 => 132 | 285 => 133 | 286 => 134 | 129 => 157 | 317 => 160 | 318 => 161 | 319 => 162 | 320 => 163 | 337 => 186 | 338 => 187 | n => n, fun | 37 => 34 | 53 => 128 | 3 => 3 | 4 => 4 | 9 => 9 | 171 => 138 | 0 => 0 | 173 => 141 | 212 => 166 | 51 => 143 | 5 => 5 | 20 => 20 | 213 => 167 | 46 => 133 | 232 => 200 | 233 => 201 | n => n, fun | 17 => 1 | 18 => 4 | 19 => 5 | n => n⟩
theorem Tryz.shAppU : Go.Proofs.LaysM.n288 Tryz.prog Tryz.shAppU_ren := {
  mixed := by kernel_rfl
  f129 := Tryz.func157.trans (congrArg some (by kernel_rfl))
  f283 := Tryz.func131.trans (congrArg some (by kernel_rfl))
  f284 := Tryz.func132.trans (congrArg some (by kernel_rfl))
  f285 := Tryz.func133.trans (congrArg some (by kernel_rfl))
  f286 := Tryz.func134.trans (congrArg some (by kernel_rfl))
  f288 := Tryz.func111.trans (congrArg some (by kernel_rfl))
  f317 := Tryz.func160.trans (congrArg some (by kernel_rfl))
  f318 := Tryz.func161.trans (congrArg some (by kernel_rfl))
  f319 := Tryz.func162.trans (congrArg some (by kernel_rfl))
  f320 := Tryz.func163.trans (congrArg some (by kernel_rfl))
  f337 := Tryz.func186.trans (congrArg some (by kernel_rfl))
  f338 := Tryz.func187.trans (congrArg some (by kernel_rfl))
  t0 := Tryz.underlying0
  a0 := Tryz.isAgg0
  z0 := Tryz.sizeOf0
  v0 := Tryz.zeroValue0
  t3 := Tryz.underlying3
  a3 := Tryz.isAgg3
  z3 := Tryz.sizeOf3
  v3 := Tryz.zeroValue3
  t4 := Tryz.underlying4
  a4 := Tryz.isAgg4
  z4 := Tryz.sizeOf4
  v4 := Tryz.zeroValue4
  t5 := Tryz.underlying5
  a5 := Tryz.isAgg5
  z5 := Tryz.sizeOf5
  v5 := Tryz.zeroValue5
  t9 := Tryz.underlying9
  a9 := Tryz.isAgg9
  z9 := Tryz.sizeOf9
  v9 := Tryz.zeroValue9
  t20 := Tryz.underlying20
  a20 := Tryz.isAgg20
  z20 := Tryz.sizeOf20
  v20 := Tryz.zeroValue20
  t37 := Tryz.underlying34
  a37 := Tryz.isAgg34
  z37 := Tryz.sizeOf34
  v37 := Tryz.zeroValue34
  t46 := Tryz.underlying133
  a46 := Tryz.isAgg133
  z46 := Tryz.sizeOf133
  v46 := Tryz.zeroValue133
  t51 := Tryz.underlying143
  a51 := Tryz.isAgg143
  z51 := Tryz.sizeOf143
  v51 := Tryz.zeroValue143
  t53 := Tryz.underlying128
  a53 := Tryz.isAgg128
  z53 := Tryz.sizeOf128
  v53 := Tryz.zeroValue128
  t171 := Tryz.underlying138
  a171 := Tryz.isAgg138
  z171 := Tryz.sizeOf138
  v171 := Tryz.zeroValue138
  t173 := Tryz.underlying141
  a173 := Tryz.isAgg141
  z173 := Tryz.sizeOf141
  v173 := Tryz.zeroValue141
  t212 := Tryz.underlying166
  a212 := Tryz.isAgg166
  z212 := Tryz.sizeOf166
  v212 := Tryz.zeroValue166
  t213 := Tryz.underlying167
  a213 := Tryz.isAgg167
  z213 := Tryz.sizeOf167
  t232 := Tryz.underlying200
  a232 := Tryz.isAgg200
  z232 := Tryz.sizeOf200
  v232 := Tryz.zeroValue200
  t233 := Tryz.underlying201
  a233 := Tryz.isAgg201
  z233 := Tryz.sizeOf201
  v233 := Tryz.zeroValue201
  g17 := by kernel_rfl
  g18 := by kernel_rfl
  g19 := by kernel_rfl
  i0 := by kernel_rfl
  i3 := by kernel_rfl
  i4 := by kernel_rfl
  i5 := by kernel_rfl
  i9 := by kernel_rfl
  i20 := by kernel_rfl
  i37 := by kernel_rfl
  i46 := by kernel_rfl
  i51 := by kernel_rfl
  i53 := by kernel_rfl
  i171 := by kernel_rfl
  i173 := by kernel_rfl
  i212 := by kernel_rfl
  i232 := by kernel_rfl
  i233 := by kernel_rfl
  m17 := by kernel_rfl
  m18 := by kernel_rfl
  m19 := by kernel_rfl }
def Tryz.shCut_ren : Go.Shelf.Ren := ⟨fun | 4 => 57 | 5 => 86 | 6 => 112 | 7 => 113 | 8 => 114 | 9 => 115 | 10 => 116 | 11 => 135 | 12 => 136 | n => n, fun | 22 => 34 | 4 => 4 | 3 => 3 | 0 => 0 | 5 => 5 | 29 => 133 | 9 => 9 | 31 => 144 | 30 => 143 | n => n, fun | 0 => 0 | n => n⟩
theorem Tryz.shCut : Go.Proofs.SlLaysT.n4 Tryz.prog Tryz.shCut_ren := {
  mixed := by kernel_rfl
  f4 := Tryz.func57.trans (congrArg some (by kernel_rfl))
  f5 := Tryz.func86.trans (congrArg some (by kernel_rfl))
  f6 := Tryz.func112.trans (congrArg some (by kernel_rfl))
  f7 := Tryz.func113.trans (congrArg some (by kernel_rfl))
  f8 := Tryz.func114.trans (congrArg some (by kernel_rfl))
  f9 := Tryz.func115.trans (congrArg some (by kernel_rfl))
  f10 := Tryz.func116.trans (congrArg some (by kernel_rfl))
  f11 := Tryz.func135.trans (congrArg some (by kernel_rfl))
  f12 := Tryz.func136.trans (congrArg some (by kernel_rfl))
  t0 := Tryz.underlying0
  a0 := Tryz.isAgg0
  z0 := Tryz.sizeOf0
  v0 := Tryz.zeroValue0
  t3 := Tryz.underlying3
  a3 := Tryz.isAgg3
  z3 := Tryz.sizeOf3
  v3 := Tryz.zeroValue3
  t4 := Tryz.underlying4
  a4 := Tryz.isAgg4
  z4 := Tryz.sizeOf4
  v4 := Tryz.zeroValue4
  t5 := Tryz.underlying5
  a5 := Tryz.isAgg5
  z5 := Tryz.sizeOf5
  v5 := Tryz.zeroValue5
  t9 := Tryz.underlying9
  a9 := Tryz.isAgg9
  z9 := Tryz.sizeOf9
  v9 := Tryz.zeroValue9
  t22 := Tryz.underlying34
  a22 := Tryz.isAgg34
  z22 := Tryz.sizeOf34
  v22 := Tryz.zeroValue34
  t29 := Tryz.underlying133
  a29 := Tryz.isAgg133
  z29 := Tryz.sizeOf133
  v29 := Tryz.zeroValue133
  t30 := Tryz.underlying143
  a30 := Tryz.isAgg143
  z30 := Tryz.sizeOf143
  v30 := Tryz.zeroValue143
  t31 := Tryz.underlying144
  a31 := Tryz.isAgg144
  z31 := Tryz.sizeOf144
  v31 := Tryz.zeroValue144
  g0 := by kernel_rfl }
end Go.Proofs
namespace Go.Proofs.YtbpbndlgfiammaaGreatDoor.Cn
def isBytes (xs : List Int) : Prop := ∀ x ∈ xs, 0 ≤ x ∧ x < 256
end Go.Proofs.YtbpbndlgfiammaaGreatDoor.Cn
namespace Go.Proofs.YtbpbndlgfiammaaGreatDoor.Cn
def itoaI (n : Int) : List Int := (Go.Lib.itoa n).map fun b => (b.toNat : Int)
def bytesC (xs : List Int) : List Value := xs.map (Value.int .u8)
theorem bytesC_itoa (n : Int) : Go.Lib.byteCells (Go.Lib.itoa n) = bytesC (itoaI n) := by simp [Go.Lib.byteCells, bytesC, itoaI, Function.comp_def]
theorem itoa_len {n : Int} (h0 : -9223372036854775808 ≤ n) (h1 : n ≤ 9223372036854775807) : (itoaI n).length ≤ 21 := by
  rw [itoaI, List.length_map]; exact Go.Lib.itoa_length_le n h0 h1
end Go.Proofs.YtbpbndlgfiammaaGreatDoor.Cn
namespace Go.Proofs.YtbpbndlgfiammaaGreatDoor.Cn
def dval (l : List Int) : Int := l.foldl (fun n c => 10 * n + (c - 48)) 0
def isDg (c : Int) : Bool := !(decide (c < 48) || decide (c > 57))
def numM (w : List Int) : Bool := decide ((w.length : Int) > 0) && ((w.getD 0 0) == 45)
def numD (w : List Int) : List Int := bif numM w then (w.take w.length).drop 1 else w
def numBad (w : List Int) : Bool := ((((numD w).length : Int) == 0) || (decide (((numD w).length : Int) > 10))) || ((((numD w).getD 0 0) == 48) && ((numM w) || (decide (((numD w).length : Int) > 1))))
theorem bad_of {w v : List Int} (h : numD w = v) : numBad w = (((((v.length : Int) == 0) || (decide ((v.length : Int) > 10))) || (((v.getD 0 0) == 48) && ((numM w) || (decide ((v.length : Int) > 1)))))) := by unfold numBad; rw [h]
theorem numD_t {w : List Int} (h : numM w = true) : numD w = (w.take w.length).drop 1 := by unfold numD; rw [h]; rfl
theorem numD_f {w : List Int} (h : numM w = false) : numD w = w := by unfold numD; rw [h]; rfl
def numOk (w : List Int) : Bool := !numBad w && (numD w).all isDg
def numN (w : List Int) : Int := bif numOk w then (bif numM w then -(dval (numD w)) else dval (numD w)) else 0
theorem dval_snoc (l : List Int) (c : Int) : dval (l ++ [c]) = 10 * dval l + (c - 48) := by simp [dval]
theorem str_inj {w v : List Int} (hw : isBytes w) (hv : isBytes v) : ((strOfNums w).toList == (strOfNums v).toList) = (w == v) := by
  have hmap : ∀ {w v : List Int}, isBytes w → isBytes v → (w.map fun n => UInt8.ofNat n.toNat) = (v.map fun n => UInt8.ofNat n.toNat) → w = v := by
    intro w
    induction w with
    | nil => intro v _ _ h; cases v <;> simp_all
    | cons x w ih =>
      intro v hw hv h
      cases v with
      | nil => simp at h
      | cons y v =>
        simp only [List.map_cons, List.cons.injEq] at h
        have h1 := hw x (by simp)
        have h2 := hv y (by simp)
        have h3 := congrArg UInt8.toNat h.1
        rw [UInt8.toNat_ofNat', UInt8.toNat_ofNat'] at h3
        rw [show x = y by omega, ih (fun z hz => hw z (by simp [hz])) (fun z hz => hv z (by simp [hz])) h.2]
  have hl : ∀ u : List Int, (strOfNums u).toList = u.map fun n => UInt8.ofNat n.toNat := fun u => by rw [Go.Lib.strOfNums_toList]; rfl
  rw [hl, hl, Bool.eq_iff_iff, beq_iff_eq, beq_iff_eq]
  exact ⟨hmap hw hv, fun h => by rw [h]⟩
end Go.Proofs.YtbpbndlgfiammaaGreatDoor.Cn
namespace Go.Proofs.YtbpbndlgfiammaaGreatDoor.Cn
open Go
def ahd (x y : Int) : Bool := decide (x.natAbs < y.natAbs ∨ x.natAbs = y.natAbs ∧ y < x)
def sortL (xs : List Int) : List Int := xs.mergeSort fun x y => !ahd y x
def normL (l : List Int) : List Int := Lib.compact (sortL (l.filter fun x => mayP x 65536))
def tautL (l : List Int) : Bool := (normL l).any fun x => (normL l).contains (-x)
theorem ahd_iff {x y : Int} : ahd x y = true ↔ (x.natAbs < y.natAbs ∨ x.natAbs = y.natAbs ∧ y < x) := by simp [ahd]
theorem ahd_no {x y : Int} : (!ahd y x) = true ↔ x = y ∨ ahd x y = true := by
  rw [ahd_iff]; simp [ahd]; omega
theorem ahd_tr {x y z : Int} (h : ahd x y = true) (h' : ahd y z = true) : ahd x z = true := by
  rw [ahd_iff] at *; omega
theorem ahd_tot {x y : Int} : ahd x y = true ∨ x = y ∨ ahd y x = true := by
  rw [ahd_iff, ahd_iff]; omega
abbrev Str (xs : List Int) : Prop := xs.Pairwise fun x y => ahd x y = true
theorem compact_str (xs : List Int) (hs : xs.Pairwise fun x y => (!ahd y x) = true) : (∀ x, x ∈ Lib.compact xs ↔ x ∈ xs) ∧ Str (Lib.compact xs) := by
  have key : ∀ m, m ≤ xs.length → (∀ x, x ∈ Lib.compactUpTo xs.toArray m ↔ x ∈ xs.take m) ∧ Str (Lib.compactUpTo xs.toArray m) := by
    intro m
    induction m with
    | zero => intro _; simp [Lib.compactUpTo]
    | succ m ih =>
      intro hm
      obtain ⟨h1, h2⟩ := ih (by omega)
      have hlt : m < xs.length := by omega
      have eg : xs.toArray[m]! = xs[m] := by rw [getElem!_pos xs.toArray m (by simpa using hlt)]; simp
      rw [Lib.compactUpTo_succ, eg, List.take_succ_eq_append_getElem hlt]
      have hle : ∀ y ∈ xs.take m, (!ahd xs[m] y) = true := by
        intro y hy
        obtain ⟨j, hj, rfl⟩ := List.mem_iff_getElem.1 hy
        rw [List.length_take] at hj
        rw [List.getElem_take]
        exact List.pairwise_iff_getElem.1 hs j m (by omega) hlt (by omega)
      cases hk : Lib.keeps xs.toArray m with
      | true =>
        rw [if_pos rfl]
        refine ⟨fun x => by simp only [List.mem_append, h1 x], List.pairwise_append.2 ⟨h2, List.pairwise_singleton _ _, fun y hy z hz => ?_⟩⟩
        rw [List.mem_singleton] at hz
        subst hz
        have hy' := (h1 y).1 hy
        rcases ahd_no.1 (hle y hy') with e | h
        · subst e
          exfalso
          simp only [Lib.keeps, decide_eq_true_eq] at hk
          rcases hk with h0 | hne
          · subst h0; simp at hy'
          · by_cases hm0 : m = 0
            · subst hm0; simp at hy'
            apply hne
            have e1 : xs.toArray[m - 1]! = xs[m - 1] := by rw [getElem!_pos xs.toArray (m - 1) (by simp; omega)]; simp
            rw [eg, e1]
            have hp : (!ahd xs[m] xs[m - 1]) = true := List.pairwise_iff_getElem.1 hs (m - 1) m (by omega) hlt (by omega)
            obtain ⟨j, hj, hj2⟩ := List.mem_iff_getElem.1 hy'
            rw [List.length_take] at hj
            rw [List.getElem_take] at hj2
            rcases ahd_no.1 hp with e | h3
            · exact e.symm
            · by_cases hjm : j = m - 1
              · subst hjm; exact hj2.symm
              · have h4 : (!ahd xs[m - 1] xs[j]) = true := List.pairwise_iff_getElem.1 hs j (m - 1) (by omega) (by omega) (by omega)
                rw [hj2] at h4
                rw [h3] at h4
                exact absurd h4 (by decide)
        · exact h
      | false =>
        rw [if_neg (by simp)]
        refine ⟨fun x => ?_, by simpa using h2⟩
        simp only [List.append_nil, List.mem_append, List.mem_singleton, h1 x]
        constructor
        · exact .inl
        · rintro (h | rfl)
          · exact h
          · simp only [Lib.keeps, decide_eq_false_iff_not, not_or, Decidable.not_not] at hk
            obtain ⟨hm0, he⟩ := hk
            have e1 : xs.toArray[m - 1]! = xs[m - 1] := by rw [getElem!_pos xs.toArray (m - 1) (by simp; omega)]; simp
            rw [eg, e1] at he
            rw [he]
            exact List.mem_iff_getElem.2 ⟨m - 1, by rw [List.length_take]; omega, by rw [List.getElem_take]⟩
  have := key xs.length (Nat.le_refl _)
  rw [List.take_length] at this
  exact this
theorem sort_str (xs : List Int) : (sortL xs).Pairwise fun x y => (!ahd y x) = true :=
  List.pairwise_mergeSort (fun a b c h1 h2 => by
    rw [ahd_no] at *
    rcases h1 with rfl | h1 <;> rcases h2 with rfl | h2
    · exact .inl rfl
    · exact .inr h2
    · exact .inr h1
    · exact .inr (ahd_tr h1 h2)) (fun a b => by
    rw [Bool.or_eq_true, ahd_no, ahd_no]
    rcases ahd_tot (x := a) (y := b) with h | h | h
    · exact .inl (.inr h)
    · exact .inl (.inl h)
    · exact .inr (.inr h)) xs
theorem norm_mem {l : List Int} {x : Int} : x ∈ normL l ↔ x ∈ l ∧ mayP x 65536 = true := by
  unfold normL
  rw [(compact_str _ (sort_str _)).1 x, sortL, List.mem_mergeSort, List.mem_filter]
theorem norm_str (l : List Int) : Str (normL l) := (compact_str _ (sort_str _)).2
theorem norm_nz {l : List Int} {x : Int} (h : x ∈ normL l) : x ≠ 0 := (mayP_iff.1 (norm_mem.1 h).2).1
theorem norm_bd {l : List Int} {j : Nat} (h : j < (normL l).length) : -65536 ≤ (normL l).getD j 0 ∧ (normL l).getD j 0 ≤ 65536 := (mayP_iff.1 (norm_mem.1 (getD_memL (d := 0) h)).2).2
theorem norm_len (l : List Int) : (normL l).length ≤ l.length := by
  unfold normL
  refine Nat.le_trans (Lib.compact_length_le _) ?_
  rw [sortL, List.length_mergeSort]
  exact List.length_filter_le _ _
theorem str_at {xs : List Int} (h : Str xs) {i j : Nat} (hij : i < j) (hj : j < xs.length) : ahd (xs.getD i 0) (xs.getD j 0) = true := by
  have hi : i < xs.length := by omega
  rw [List.getD_eq_getElem?_getD, List.getD_eq_getElem?_getD, List.getElem?_eq_getElem hj, List.getElem?_eq_getElem hi]
  exact List.pairwise_iff_getElem.1 h i j hi hj hij
theorem taut_adj_yes {xs : List Int} {i : Nat} (h0 : 0 < i) (hi : i < xs.length) (h : xs.getD (i - 1) 0 = -(xs.getD i 0)) : (xs.any fun x => xs.contains (-x)) = true :=
  any_yes (d := 0) hi (by rw [← h]; exact List.contains_iff_mem.2 (getD_memL (by omega)))
theorem taut_adj_no {xs : List Int} (hs : Str xs) (hn : ∀ x ∈ xs, x ≠ 0) (h : ∀ i, 0 < i → i < xs.length → xs.getD (i - 1) 0 ≠ -(xs.getD i 0)) : (xs.any fun x => xs.contains (-x)) = false := by
  rw [List.any_eq_false]
  intro x hx hc
  have hc := List.contains_iff_mem.1 hc
  have key : ∀ z ∈ xs, -z ∈ xs → 0 < z → False := by
    intro z hz hz' hp
    obtain ⟨i, hi, rfl⟩ := List.mem_iff_getElem.1 hz
    obtain ⟨j, hj, hjv⟩ := List.mem_iff_getElem.1 hz'
    have ei : xs.getD i 0 = xs[i] := by rw [List.getD_eq_getElem?_getD, List.getElem?_eq_getElem hi]; rfl
    have ej : xs.getD j 0 = xs[j] := by rw [List.getD_eq_getElem?_getD, List.getElem?_eq_getElem hj]; rfl
    have hlt : i < j := by
      rcases Nat.lt_trichotomy i j with h1 | h1 | h1
      · exact h1
      · subst h1; omega
      · have := str_at hs h1 hi
        rw [ei, ej, ahd_iff] at this
        omega
    by_cases hji : j = i + 1
    · subst hji
      refine h (i + 1) (by omega) hj ?_
      rw [Nat.add_sub_cancel, ei, ej]
      omega
    · have h1 := str_at hs (show i < i + 1 by omega) (by omega)
      have h2 := str_at hs (show i + 1 < j by omega) hj
      rw [ei, ahd_iff] at h1
      rw [ej, ahd_iff] at h2
      omega
  have hx0 := hn x hx
  by_cases hp : 0 < x
  · exact key x hx hc hp
  · exact key (-x) hc (by rwa [Int.neg_neg]) (by omega)
def lensN (xss : List (List Int)) : Nat := (xss.map List.length).sum
theorem lens_flat (xss : List (List Int)) : xss.flatten.length = lensN xss := by simp [lensN, List.length_flatten]
theorem lens_take (xss : List (List Int)) (i : Nat) : lensN (xss.take i) ≤ lensN xss := by
  induction xss generalizing i with
  | nil => simp [lensN]
  | cons x t ih =>
    cases i with
    | zero => simp [lensN]
    | succ i => have := ih i; simp only [lensN, List.take_succ_cons, List.map_cons, List.sum_cons] at this ⊢; omega
theorem lens_step {xss : List (List Int)} {k : Nat} (h : k < xss.length) : lensN (xss.take (k + 1)) = lensN (xss.take k) + (xss.getD k []).length := by
  rw [take_sD (d := []) h]; simp [lensN]
theorem flat_take {xss : List (List Int)} {k : Nat} (h : k < xss.length) : (xss.take k).flatten ++ xss.getD k [] = (xss.take (k + 1)).flatten := by
  rw [take_sD (d := []) h, List.flatten_append]; simp
def resOn (a b : List Int) (x : Int) : List Int := normL ((a.filter fun y => !(y == x)) ++ (b.filter fun y => !(y == -x)))
def onB (a b : List Int) (x : Int) : Bool := a.contains x && b.contains (-x)
def resL (a b : List Int) (v : Int) : List Int := if 1 ≤ v ∧ v ≤ 65536 then if onB a b v then resOn a b v else if onB a b (-v) then resOn a b (-v) else [] else []
def resE (a b : List Int) (v : Int) : Int := if 1 ≤ v ∧ v ≤ 65536 then if onB a b v || onB a b (-v) then 0 else 140 else 140
theorem onB_no {a b : List Int} {x : Int} (h : ((!(a.contains x)) || (!(b.contains (-x)))) = true) : onB a b x = false := by
  unfold onB; cases h1 : a.contains x <;> cases h2 : b.contains (-x) <;> simp_all
theorem onB_yes {a b : List Int} {x : Int} (h : ((!(a.contains x)) || (!(b.contains (-x)))) = false) : onB a b x = true := by
  unfold onB; cases h1 : a.contains x <;> cases h2 : b.contains (-x) <;> simp_all
theorem two_bd {v : Int} {k : Nat} (h : k < 2) (h1 : 1 ≤ v) (h2 : v ≤ 65536) : -65536 ≤ [v, -v].getD k 0 ∧ [v, -v].getD k 0 ≤ 65536 := by
  match k, h with
  | 0, _ => exact ⟨by show -65536 ≤ v; omega, h2⟩
  | 1, _ => exact ⟨by show -65536 ≤ -v; omega, by show -v ≤ 65536; omega⟩
theorem res_yes {a b : List Int} {v : Int} {k : Nat} (hk : k < 2) (h1 : 1 ≤ v) (h2 : v ≤ 65536) (hn : ∀ j, j < k → onB a b ([v, -v].getD j 0) = false) (hy : onB a b ([v, -v].getD k 0) = true) :
    resL a b v = resOn a b ([v, -v].getD k 0) ∧ resE a b v = 0 := by
  have hv : 1 ≤ v ∧ v ≤ 65536 := ⟨h1, h2⟩
  match k, hk with
  | 0, _ =>
    have hy : onB a b v = true := hy
    exact ⟨by unfold resL; rw [if_pos hv, if_pos hy]; rfl, by unfold resE; rw [if_pos hv, hy]; rfl⟩
  | 1, _ =>
    have hy : onB a b (-v) = true := hy
    have hn : onB a b v = false := hn 0 (by omega)
    exact ⟨by unfold resL; rw [if_pos hv, hn, if_neg (by simp), if_pos hy]; rfl, by unfold resE; rw [if_pos hv, hn, hy]; rfl⟩
theorem res_no {a b : List Int} {v : Int} (hn : ∀ j, j < 2 → onB a b ([v, -v].getD j 0) = false) : resL a b v = [] ∧ resE a b v = 140 := by
  have h0 : onB a b v = false := hn 0 (by omega)
  have h1 : onB a b (-v) = false := hn 1 (by omega)
  unfold resL resE
  rw [h0, h1]
  constructor <;> split <;> rfl
theorem res_out {a b : List Int} {v : Int} (h : v < 1 ∨ 65536 < v) : resL a b v = [] ∧ resE a b v = 140 := by
  exact ⟨by unfold resL; rw [if_neg (by omega)], by unfold resE; rw [if_neg (by omega)]⟩
theorem flat2 (a b : List Int) : [a, b].flatten = a ++ b := by simp
end Go.Proofs.YtbpbndlgfiammaaGreatDoor.Cn
namespace Go.Proofs.YtbpbndlgfiammaaGreatDoor.Cn
open Go
end Go.Proofs.YtbpbndlgfiammaaGreatDoor.Cn
namespace Go.Proofs.YtbpbndlgfiammaaGreatDoor.Cn
end Go.Proofs.YtbpbndlgfiammaaGreatDoor.Cn
namespace Go.Proofs.YtbpbndlgfiammaaGreatDoor.Cn
theorem resL_len (a b : List Int) (v : Int) : (resL a b v).length ≤ a.length + b.length := by
  have hn : ∀ x, (resOn a b x).length ≤ a.length + b.length := fun x => by
    unfold resOn
    refine Nat.le_trans (norm_len _) ?_
    rw [List.length_append]
    exact Nat.add_le_add (List.length_filter_le _ _) (List.length_filter_le _ _)
  unfold resL
  split
  · split
    · exact hn v
    · split
      · exact hn (-v)
      · simp
  · simp
end Go.Proofs.YtbpbndlgfiammaaGreatDoor.Cn
namespace Go.Proofs.YtbpbndlgfiammaaGreatDoor.Cn
variable {a b l t : List Int} {w : List Bool} {v x : Int}
end Go.Proofs.YtbpbndlgfiammaaGreatDoor.Cn
namespace Go.Proofs.YtbpbndlgfiammaaGreatDoor.Cn
open Go
def dgs (u : Nat) : List Int := (Go.Lib.decDigits u).map fun b => (b.toNat : Int)
theorem dgs_lo {u : Nat} (h : u < 10) : dgs u = [48 + (u : Int)] := by
  unfold dgs
  rw [Go.Lib.decDigits_one h]
  have : (UInt8.ofNat (48 + u)).toNat = 48 + u := by rw [UInt8.toNat_ofNat']; omega
  simp only [List.map_cons, List.map_nil, this]
  simp
theorem dgs_hi {u : Nat} (h : ¬ u < 10) : dgs u = dgs (u / 10) ++ [48 + ((u % 10 : Nat) : Int)] := by
  unfold dgs
  rw [Go.Lib.decDigits, dif_neg h, List.map_append]
  have : (UInt8.ofNat (48 + u % 10)).toNat = 48 + u % 10 := by rw [UInt8.toNat_ofNat']; omega
  simp only [List.map_cons, List.map_nil, this]
  simp
theorem dgs_all : ∀ (u : Nat), (∀ x ∈ dgs u, 48 ≤ x ∧ x ≤ 57) ∧ dval (dgs u) = (u : Int) ∧ 1 ≤ (dgs u).length ∧ ((dgs u).getD 0 0 = 48 → u = 0) := fun u => by
  induction u using Nat.strongRecOn with
  | _ u ih =>
    by_cases h : u < 10
    · rw [dgs_lo h]
      exact ⟨fun x hx => by rw [List.mem_singleton] at hx; omega, by show 10 * 0 + (48 + (u : Int) - 48) = u; omega, by simp, fun h => by simp at h; omega⟩
    · obtain ⟨h1, h2, h3, h4⟩ := ih (u / 10) (by omega)
      rw [dgs_hi h]
      refine ⟨fun x hx => ?_, ?_, by simp, fun h9 => ?_⟩
      · rcases List.mem_append.1 hx with h9 | h9
        · exact h1 x h9
        · rw [List.mem_singleton] at h9; omega
      · rw [dval_snoc, h2]; omega
      · rw [List.getD_eq_getElem?_getD, List.getElem?_append_left (by omega), ← List.getD_eq_getElem?_getD] at h9
        have := h4 h9
        omega
theorem dgs_len : ∀ (k u : Nat), u < 10 ^ (k + 1) → (dgs u).length ≤ k + 1
  | 0, u, h => by rw [dgs_lo (by simpa using h)]; simp
  | k + 1, u, h => by
    by_cases h9 : u < 10
    · rw [dgs_lo h9]; simp
    · rw [dgs_hi h9, List.length_append]
      have := dgs_len k (u / 10) (by rw [Nat.pow_succ] at h; omega)
      simp; omega
theorem itoa_pos {n : Int} (h : 0 ≤ n) : itoaI n = dgs n.toNat := by unfold itoaI dgs Go.Lib.itoa; rw [if_neg (by omega)]
theorem itoa_neg {n : Int} (h : n < 0) : itoaI n = 45 :: dgs n.natAbs := by unfold itoaI dgs Go.Lib.itoa; rw [if_pos h]; rfl
theorem itoa_mem {n : Int} : ∀ x ∈ itoaI n, x = 45 ∨ (48 ≤ x ∧ x ≤ 57) := fun x hx => by
  by_cases h : n < 0
  · rw [itoa_neg h, List.mem_cons] at hx
    rcases hx with rfl | hx
    · exact .inl rfl
    · exact .inr ((dgs_all _).1 x hx)
  · rw [itoa_pos (by omega)] at hx
    exact .inr ((dgs_all _).1 x hx)
theorem dig_all {u : Nat} : (dgs u).all isDg = true := List.all_eq_true.2 fun x hx => by
  have := (dgs_all u).1 x hx
  unfold isDg
  rw [decide_eq_false (show ¬ x < 48 by omega), decide_eq_false (show ¬ x > 57 by omega)]; rfl
theorem num_itoa {n : Int} (h1 : -65536 ≤ n) (h2 : n ≤ 65536) : numOk (itoaI n) = true ∧ numN (itoaI n) = n := by
  have key : ∀ u : Nat, u ≤ 65536 → (dgs u).length ≤ 5 := fun u hu => dgs_len 4 u (by omega)
  by_cases h : n < 0
  · have hM : numM (itoaI n) = true := by unfold numM; rw [itoa_neg h]; simp
    have hD : numD (itoaI n) = dgs n.natAbs := by rw [numD_t hM, List.take_length, itoa_neg h]; rfl
    obtain ⟨a1, a2, a3, a4⟩ := dgs_all n.natAbs
    have a5 := key n.natAbs (by omega)
    have hB : numBad (itoaI n) = false := by
      rw [bad_of hD, hM, show (((dgs n.natAbs).length : Int) == 0) = false by rw [beq_eq_false_iff_ne]; omega, decide_eq_false (show ¬ ((dgs n.natAbs).length : Int) > 10 by omega), show (((dgs n.natAbs).getD 0 0) == 48) = false by rw [beq_eq_false_iff_ne]; intro e; have := a4 e; omega]
      rfl
    have hO : numOk (itoaI n) = true := by unfold numOk; rw [hB, hD, dig_all]; rfl
    exact ⟨hO, by unfold numN; rw [hO, hM, hD, a2]; show -((n.natAbs : Nat) : Int) = n; omega⟩
  · have e := itoa_pos (n := n) (by omega)
    obtain ⟨a1, a2, a3, a4⟩ := dgs_all n.toNat
    have a5 := key n.toNat (by omega)
    have hM : numM (itoaI n) = false := by
      unfold numM
      rw [e]
      have : (dgs n.toNat).getD 0 0 ∈ dgs n.toNat := getD_memL (by omega)
      have := a1 _ this
      rw [show ((dgs n.toNat).getD 0 0 == 45) = false by rw [beq_eq_false_iff_ne]; omega, Bool.and_false]
    have hD : numD (itoaI n) = dgs n.toNat := by rw [numD_f hM, e]
    have hB : numBad (itoaI n) = false := by
      rw [bad_of hD, hM, show (((dgs n.toNat).length : Int) == 0) = false by rw [beq_eq_false_iff_ne]; omega, decide_eq_false (show ¬ ((dgs n.toNat).length : Int) > 10 by omega)]
      by_cases h0 : (dgs n.toNat).getD 0 0 = 48
      · have := a4 h0
        rw [this, dgs_lo (by omega)]; decide
      · rw [show (((dgs n.toNat).getD 0 0) == 48) = false by rw [beq_eq_false_iff_ne]; exact h0]; rfl
    have hO : numOk (itoaI n) = true := by unfold numOk; rw [hB, hD, dig_all]; rfl
    exact ⟨hO, by unfold numN; rw [hO, hM, hD, a2]; show ((n.toNat : Nat) : Int) = n; omega⟩
end Go.Proofs.YtbpbndlgfiammaaGreatDoor.Cn
namespace Go.Proofs.YtbpbndlgfiammaaGreatDoor.Cn
open Go
end Go.Proofs.YtbpbndlgfiammaaGreatDoor.Cn
namespace Go.Proofs.YtbpbndlgfiammaaGreatDoor.Cn
open Go
end Go.Proofs.YtbpbndlgfiammaaGreatDoor.Cn
namespace Go.Proofs.YtbpbndlgfiammaaGreatDoor.Cn
open Go Go.RowKit En
theorem str_size (a : List Int) : (strOfNums a).size = a.length := by
  show (strOfNums a).data.size = _
  simp [strOfNums]
theorem bytesI_str {a : List Int} (h : isBytes a) : bytesI (strOfNums a) = a := by
  unfold bytesI
  rw [strOfNums_data, List.map_map]
  conv => rhs; rw [← List.map_id a]
  refine List.map_congr_left fun x hx => ?_
  have := h x hx
  show (((UInt8.ofNat x.toNat).toNat : Nat) : Int) = x
  rw [UInt8.toNat_ofNat']
  omega
theorem itoa_bytes (n : Int) : isBytes (itoaI n) := fun x hx => by rcases itoa_mem x hx with h | h <;> omega
section
variable {b : List Int} {i : Nat}
end
end Go.Proofs.YtbpbndlgfiammaaGreatDoor.Cn
namespace Go.Proofs.YtbpbndlgfiammaaGreatDoor.Cn
open Go Go.RowKit En
theorem getD_memS {l : List ByteArray} {i : Nat} {d : ByteArray} (h : i < l.length) : l.getD i d ∈ l := by rw [List.getD_eq_getElem?_getD, List.getElem?_eq_getElem h]; exact List.getElem_mem _
end Go.Proofs.YtbpbndlgfiammaaGreatDoor.Cn
namespace Go.Proofs.YtbpbndlgfiammaaGreatDoor.Cn
open Go Go.RowKit En
variable {W : List (List Int)}
section
variable {Z : List Int} {i : Nat}
end
end Go.Proofs.YtbpbndlgfiammaaGreatDoor.Cn
namespace Go.Proofs.YtbpbndlgfiammaaGreatDoor.Cn
open Go Go.RowKit En
def splitI (c : Int) : List Int → List (List Int)
  | [] => [[]]
  | x :: l => if x = c then [] :: splitI c l else match splitI c l with | w :: ws => (x :: w) :: ws | [] => [[x]]
theorem splitI_ne (c : Int) : ∀ xs : List Int, ∃ w ws, splitI c xs = w :: ws
  | [] => ⟨[], [], rfl⟩
  | x :: l => by
    obtain ⟨w, ws, e⟩ := splitI_ne c l
    unfold splitI
    split
    · exact ⟨[], _, rfl⟩
    · rw [e]; exact ⟨x :: w, ws, rfl⟩
theorem splitI_miss {c : Int} : ∀ {xs : List Int}, c ∉ xs → splitI c xs = [xs]
  | [], _ => rfl
  | x :: l, h => by
    have h1 : ¬ x = c := fun e => h (by rw [e]; exact List.mem_cons_self)
    unfold splitI
    rw [if_neg h1, splitI_miss (fun e => h (List.mem_cons_of_mem _ e))]
theorem splitI_hit {c : Int} {r : List Int} : ∀ {a : List Int}, c ∉ a → splitI c (a ++ c :: r) = a :: splitI c r
  | [], _ => by simp [splitI]
  | x :: a, h => by
    have h1 : ¬ x = c := fun e => h (by rw [e]; exact List.mem_cons_self)
    rw [List.cons_append]
    conv => lhs; unfold splitI
    rw [if_neg h1, splitI_hit (fun e => h (List.mem_cons_of_mem _ e))]
theorem splitI_mem {c : Int} : ∀ {xs w : List Int}, w ∈ splitI c xs → ∀ x ∈ w, x ∈ xs
  | [], w, h, x, hx => by simp [splitI] at h; subst h; cases hx
  | y :: l, w, h, x, hx => by
    unfold splitI at h
    obtain ⟨v, vs, e⟩ := splitI_ne c l
    split at h
    · rcases List.mem_cons.1 h with h | h
      · subst h; cases hx
      · exact List.mem_cons_of_mem _ (splitI_mem h x hx)
    · rw [e] at h
      rcases List.mem_cons.1 h with h | h
      · subst h
        rcases List.mem_cons.1 hx with h | h
        · rw [h]; exact List.mem_cons_self
        · exact List.mem_cons_of_mem _ (splitI_mem (c := c) (xs := l) (w := v) (by rw [e]; exact List.mem_cons_self) x h)
      · exact List.mem_cons_of_mem _ (splitI_mem (c := c) (xs := l) (w := w) (by rw [e]; exact List.mem_cons_of_mem _ h) x hx)
theorem splitI_len (c : Int) : ∀ xs : List Int, (splitI c xs).length ≤ xs.length + 1 ∧ ∀ w ∈ splitI c xs, w.length ≤ xs.length
  | [] => by simp [splitI]
  | x :: l => by
    obtain ⟨h1, h2⟩ := splitI_len c l
    obtain ⟨v, vs, e⟩ := splitI_ne c l
    unfold splitI
    split
    · refine ⟨by simp; omega, fun w hw => ?_⟩
      rcases List.mem_cons.1 hw with h | h
      · subst h; simp
      · have := h2 w h; simp; omega
    · rw [e] at h1 h2 ⊢
      simp only [List.length_cons] at h1 ⊢
      refine ⟨by omega, fun w hw => ?_⟩
      rcases List.mem_cons.1 hw with h | h
      · have := h2 v List.mem_cons_self; subst h; simp; omega
      · have := h2 w (List.mem_cons_of_mem _ h); omega
theorem index_one (c : UInt8) : ∀ l : List UInt8, (Lib.index l [c] = -1 ∧ c ∉ l) ∨ ∃ a r, l = a ++ c :: r ∧ c ∉ a ∧ Lib.index l [c] = a.length
  | [] => .inl ⟨rfl, by simp⟩
  | b :: l => by
    unfold Lib.index
    by_cases h : c = b
    · subst h
      exact .inr ⟨[], l, rfl, by simp, by simp [List.isPrefixOf]⟩
    · have hp : [c].isPrefixOf (b :: l) = false := by simp [List.isPrefixOf, h]
      rw [hp]
      simp only [Bool.false_eq_true, if_false]
      rcases index_one c l with ⟨h1, h2⟩ | ⟨a, r, h1, h2, h3⟩
      · exact .inl ⟨by rw [h1]; rfl, by simp [h, h2]⟩
      · refine .inr ⟨b :: a, r, by rw [h1]; rfl, by simp [h, h2], ?_⟩
        rw [h3]
        have : ((a.length : Int) == -1) = false := by rw [beq_eq_false_iff_ne]; omega
        rw [this]; simp
theorem ba_ext {a b : ByteArray} (h : a.data.toList = b.data.toList) : a = b := by
  cases a; cases b; simp at h; simp; exact h
theorem bytesI_inj {a b : ByteArray} (h : bytesI a = bytesI b) : a = b := by
  refine ba_ext ?_
  unfold bytesI at h
  exact (List.map_inj_right (fun x y e => UInt8.toNat_inj.1 (by omega))).1 h
theorem bytes_is (z : ByteArray) : isBytes (bytesI z) := fun x hx => by
  unfold bytesI at hx
  obtain ⟨b, _, rfl⟩ := List.mem_map.1 hx
  have := b.toNat_lt
  omega
theorem str_bytesI (z : ByteArray) : strOfNums (bytesI z) = z := bytesI_inj (bytesI_str (bytes_is z))
theorem bytesI_take (z : ByteArray) (i : Nat) : bytesI (z.extract 0 i) = (bytesI z).take i := by
  unfold bytesI
  rw [← List.map_take]
  congr 1
  simp
theorem bytesI_dropN (z : ByteArray) (i : Nat) : bytesI (z.extract i z.size) = (bytesI z).drop i := by
  unfold bytesI
  rw [← List.map_drop]
  congr 1
  rw [ByteArray.data_extract, Array.toList_extract]
  show (z.data.toList.extract i z.data.size) = _
  rw [List.extract_eq_take_drop, List.take_of_length_le (by rw [List.length_drop, Array.length_toList]; exact Nat.le_refl _)]
theorem split_is : ∀ (k : Nat) (s : ByteArray), s.size ≤ k → Lib.splitB ⟨#[32]⟩ 0 (Lib.countB s ⟨#[32]⟩) s = (splitI 32 (bytesI s)).map strOfNums := by
  intro k
  induction k with
  | zero =>
    intro s hs
    have h0 : s.data.toList = [] := List.eq_nil_of_length_eq_zero (by rw [Array.length_toList]; exact Nat.le_zero.1 hs)
    have hm : Lib.indexB s ⟨#[32]⟩ = -1 := by show Lib.index s.data.toList _ = _; rw [h0]; rfl
    rw [Lib.countB_miss _ _ hm, Lib.splitB_zero]
    have hb : bytesI s = [] := by unfold bytesI; rw [h0]; rfl
    rw [hb]
    show [s] = [strOfNums []]
    rw [← hb, str_bytesI]
  | succ k ih =>
    intro s hs
    rcases index_one 32 s.data.toList with ⟨h1, h2⟩ | ⟨a, r, h1, h2, h3⟩
    · have hm : Lib.indexB s ⟨#[32]⟩ = -1 := h1
      rw [Lib.countB_miss _ _ hm, Lib.splitB_zero, splitI_miss, List.map_singleton, str_bytesI]
      intro hc
      unfold bytesI at hc
      obtain ⟨b, hb, e⟩ := List.mem_map.1 hc
      exact h2 (by have : b = 32 := UInt8.toNat_inj.1 (by show b.toNat = 32; omega); rw [← this]; exact hb)
    · have hm : Lib.indexB s ⟨#[32]⟩ = (a.length : Nat) := h3
      rw [Lib.countB_hit s _ a.length (by decide) hm, Nat.add_comm 1, Lib.splitB_hit _ _ _ _ _ hm]
      have hsz : s.size = a.length + 1 + r.length := by
        have := congrArg List.length h1
        rw [Array.length_toList] at this
        have h5 : s.data.size = s.size := rfl
        simp at this; omega
      have hlt : (s.extract (a.length + 1) s.size).size ≤ k := by rw [ByteArray.size_extract]; omega
      have e1 : (⟨#[32]⟩ : ByteArray).size = 1 := rfl
      rw [e1, ih _ hlt, bytesI_dropN]
      have hbs : bytesI s = (a.map fun b => (b.toNat : Int)) ++ 32 :: (r.map fun b => (b.toNat : Int)) := by unfold bytesI; rw [h1]; simp
      have hla : (a.map fun b => (b.toNat : Int)).length = a.length := List.length_map ..
      have hna : (32 : Int) ∉ a.map fun b => (b.toNat : Int) := fun hc => by
        obtain ⟨b, hb, e⟩ := List.mem_map.1 hc
        exact h2 (by have : b = 32 := UInt8.toNat_inj.1 (by show b.toNat = 32; omega); rw [← this]; exact hb)
      have hd : (bytesI s).drop (a.length + 1) = r.map fun b => (b.toNat : Int) := by
        rw [hbs, ← hla, List.drop_append, List.drop_eq_nil_of_le (by omega)]
        simp
      have ht : (bytesI s).take a.length = a.map fun b => (b.toNat : Int) := by rw [hbs, ← hla, List.take_left']; rfl
      rw [hd, hbs, splitI_hit hna, List.map_cons]
      congr 1
      rw [← str_bytesI (s.extract 0 (a.length + 0)), bytesI_take, Nat.add_zero, ht]
def litW (w : List Int) : Bool := mayP (numN w) 65536 && itoaI (numN w) == w
theorem litW_of {w : List Int} {x : Int} (hx : mayP x 65536 = true) (h : itoaI x = w) : litW w = true ∧ numN w = x := by
  have hb := mayP_iff.1 hx
  have hn : numN w = x := by rw [← h]; exact (num_itoa hb.2.1 hb.2.2).2
  refine ⟨?_, hn⟩
  unfold litW
  rw [hn, hx, h]; simp
theorem parse_app : ∀ (l m : List UInt8) (acc a : Nat), Lib.parseUint10 acc l = .ok a → Lib.parseUint10 acc (l ++ m) = Lib.parseUint10 a m
  | [], m, acc, a, h => by simp only [Lib.parseUint10] at h; cases h; rfl
  | c :: l, m, acc, a, h => by
    rw [List.cons_append]
    simp only [Lib.parseUint10] at h ⊢
    by_cases h1 : 48 ≤ c.toNat ∧ c.toNat ≤ 57
    · rw [if_pos h1] at h ⊢
      by_cases h2 : 1844674407370955162 ≤ acc
      · rw [if_pos h2] at h; cases h
      · rw [if_neg h2] at h ⊢
        by_cases h3 : 18446744073709551616 ≤ acc * 10 + (c.toNat - 48)
        · rw [if_pos h3] at h; cases h
        · rw [if_neg h3] at h ⊢
          exact parse_app l m _ a h
    · rw [if_neg h1] at h; cases h
theorem parse_dig {a d : Nat} (hd : d < 10) (ha : a * 10 + d < 18446744073709551610) : Lib.parseUint10 a [UInt8.ofNat (48 + d)] = .ok (a * 10 + d) := by
  have hc : (UInt8.ofNat (48 + d)).toNat = 48 + d := by rw [UInt8.toNat_ofNat']; omega
  unfold Lib.parseUint10
  rw [if_pos (by rw [hc]; omega), if_neg (by omega), if_neg (by rw [hc]; omega), hc, show 48 + d - 48 = d by omega]
  rfl
theorem parse_dec (u : Nat) : u < 18446744073709551610 → Lib.parseUint10 0 (Lib.decDigits u) = .ok u := by
  induction u using Nat.strongRecOn with
  | _ u ih =>
    intro hu
    by_cases h : u < 10
    · rw [Lib.decDigits_one h, parse_dig h (by omega), Nat.zero_mul, Nat.zero_add]
    · rw [Lib.decDigits, dif_neg h, parse_app _ _ _ _ (ih (u / 10) (by omega) (by omega)), parse_dig (by omega) (by omega)]
      rw [show u / 10 * 10 + u % 10 = u by omega]
theorem dec_ne (u : Nat) : Lib.decDigits u ≠ [] := fun e => by
  have := (dgs_all u).2.2.1
  unfold dgs at this
  rw [e] at this; simp at this
theorem dec_first (u : Nat) {c : UInt8} {r : List UInt8} (h : Lib.decDigits u = c :: r) : 48 ≤ c.toNat ∧ c.toNat ≤ 57 := by
  have := (dgs_all u).1 (c.toNat : Int) (by unfold dgs; rw [h]; simp)
  omega
theorem atoi_itoa {n : Int} (h1 : -65536 ≤ n) (h2 : n ≤ 65536) : Lib.atoiAll (Lib.itoa n) = .ok n := by
  by_cases hn : n < 0
  · obtain ⟨u, rfl⟩ : ∃ u : Nat, n = -(u : Int) := ⟨n.natAbs, by omega⟩
    rw [Lib.itoa_neg u (by omega)]
    unfold Lib.atoiAll
    have e : (45 : UInt8).toNat = 45 := rfl
    simp only [e, or_true, if_true, Lib.parseMag, dec_ne, if_false, parse_dec u (by omega), not_true_eq_false, false_and, true_and]
    rw [if_neg (by omega)]
  · obtain ⟨u, rfl⟩ : ∃ u : Nat, n = u := ⟨n.toNat, by omega⟩
    rw [Lib.itoa_nonneg]
    have hne := dec_ne u
    have hp := parse_dec u (by omega)
    have hf := @dec_first u
    cases hd : Lib.decDigits u with
    | nil => exact absurd hd hne
    | cons c r =>
      have hc := hf hd
      rw [hd] at hp
      unfold Lib.atoiAll
      have e1 : ¬ c.toNat = 43 := by omega
      have e2 : ¬ c.toNat = 45 := by omega
      simp only [e1, e2, or_self, if_false, Lib.parseMag, List.cons_ne_nil, hp, not_false_eq_true, true_and, false_and]
      rw [if_neg (by omega)]
theorem itoa_str (n : Int) : (strOfNums (itoaI n)) = ⟨(Lib.itoa n).toArray⟩ := by
  refine bytesI_inj ?_
  rw [bytesI_str (itoa_bytes n)]
  unfold bytesI itoaI
  simp
def atoiV (l : List UInt8) : Int × Bool := match Lib.atoiAll l with
  | .ok v => (v, false)
  | .syntax => (0, true)
  | .range => (Lib.atoiSat l, true)
def badLit (z : ByteArray) : Bool := ((atoiV z.data.toList).2 || !(mayP (atoiV z.data.toList).1 65536)) || !((strOfNums (itoaI (atoiV z.data.toList).1)).toList == z.toList)
theorem bad_lit (w : List Int) (hw : isBytes w) : badLit (strOfNums w) = !litW w ∧ (litW w = true → (atoiV (strOfNums w).data.toList).1 = numN w) := by
  by_cases hl : litW w = true
  · have h1 : mayP (numN w) 65536 = true ∧ itoaI (numN w) = w := by
      unfold litW at hl; simpa using hl
    have hb := mayP_iff.1 h1.1
    have e : (strOfNums w).data.toList = Lib.itoa (numN w) := by rw [← h1.2, itoa_str, h1.2]
    have ha : atoiV (strOfNums w).data.toList = (numN w, false) := by unfold atoiV; rw [e, atoi_itoa hb.2.1 hb.2.2]
    refine ⟨?_, fun _ => by rw [ha]⟩
    unfold badLit
    rw [ha, h1.1, h1.2, hl]
    simp
  · refine ⟨?_, fun h => absurd h hl⟩
    have hl' : litW w = false := by simpa using hl
    rw [hl']
    cases hb : badLit (strOfNums w) with
    | true => rfl
    | false =>
      exfalso
      unfold badLit at hb
      simp only [Bool.or_eq_false_iff, Bool.not_eq_false'] at hb
      obtain ⟨⟨h1, h2⟩, h3⟩ := hb
      rw [str_inj (itoa_bytes _) hw, beq_iff_eq] at h3
      exact hl (litW_of h2 h3).1
def cutN (xs : List Int) : List Int × List Int × Bool := if xs.contains 10 = true then (xs.takeWhile (fun x => x != 10), (xs.dropWhile (fun x => x != 10)).drop 1, true) else (xs, [], false)
theorem cut_hit {a r : List Int} (h : (10 : Int) ∉ a) : cutN (a ++ 10 :: r) = (a, r, true) := by
  have h1 : ∀ x ∈ a, (x != 10) = true := fun x hx => bne_iff_ne.2 fun e => h (e ▸ hx)
  unfold cutN
  rw [if_pos (by simp), List.takeWhile_append_of_pos h1, List.dropWhile_append_of_pos h1]
  simp
theorem cut_miss {xs : List Int} (h : (10 : Int) ∉ xs) : cutN xs = (xs, [], false) := by
  unfold cutN; rw [if_neg (by simpa using h)]
theorem bytesOf_map {xs : List Int} (h : isBytes xs) : (Lib.bytesOf xs).map (fun b => (b.toNat : Int)) = xs := by
  unfold Lib.bytesOf
  rw [List.map_map]
  conv => rhs; rw [← List.map_id xs]
  refine List.map_congr_left fun x hx => ?_
  have := h x hx
  simp only [Function.comp_apply, id]
  rw [UInt8.toNat_ofNat']; omega
theorem cut_index {xs : List Int} (h : isBytes xs) : (Lib.index (Lib.bytesOf xs) [10] = -1 ∧ (10 : Int) ∉ xs) ∨ ∃ a r, xs = a ++ 10 :: r ∧ (10 : Int) ∉ a ∧ Lib.index (Lib.bytesOf xs) [10] = a.length := by
  have hm := bytesOf_map h
  have h10 : ∀ l : List UInt8, (10 : Int) ∈ l.map (fun b => (b.toNat : Int)) → (10 : UInt8) ∈ l := fun l hc => by
    obtain ⟨b, hb, e⟩ := List.mem_map.1 hc
    have : b = 10 := UInt8.toNat_inj.1 (by show b.toNat = 10; omega)
    rw [← this]; exact hb
  rcases index_one 10 (Lib.bytesOf xs) with ⟨h1, h2⟩ | ⟨a, r, h1, h2, h3⟩
  · exact .inl ⟨h1, fun hc => h2 (h10 _ (by rw [hm]; exact hc))⟩
  · refine .inr ⟨a.map fun b => (b.toNat : Int), r.map fun b => (b.toNat : Int), ?_, fun hc => h2 (h10 _ hc), by rw [h3, List.length_map]⟩
    rw [← hm, h1]; simp
def kinI (w : List Int) : Int := Lib.index [32, 111, 108, 100] (strOfNums w).data.toList
def wd (ws : List (List Int)) (i : Nat) : List Int := ws.getD i []
def headW (ws : List (List Int)) : Bool := decide ((wd ws 0).length = 1) && (decide (1 ≤ kinI (wd ws 0)) && (decide (2 ≤ ws.length) && wd ws (ws.length - 1) == [48]))
def midW (ws : List (List Int)) : List (List Int) := (ws.take (ws.length - 1)).drop 1
def lnK (xs : List Int) : Int := kinI (wd (splitI 32 xs) 0)
def lnL (xs : List Int) : List Int := if headW (splitI 32 xs) = true then ((midW (splitI 32 xs)).takeWhile litW).map numN else []
def lnOk (xs : List Int) : Bool := headW (splitI 32 xs) && (midW (splitI 32 xs)).all litW
end Go.Proofs.YtbpbndlgfiammaaGreatDoor.Cn
namespace Go.Proofs.YtbpbndlgfiammaaGreatDoor.En
open Go Go.RowKit Go.Shelf
theorem pow10_tab {W : World} {G : Nat → Prop} (hgl : GlOk (g0 W G)) : Lib.TabIs Tryz.prog W "internal/strconv.uint64pow10" .u64 Lib.pow10Tab := by
  obtain ⟨t, m, h⟩ := ((hgl 1 (g_pow10.map (Value.int .u64)) rfl).2.1 rfl).2
  unfold Lib.TabIs World.var?
  rw [show Tryz.prog.globalNamed "internal/strconv.uint64pow10" = some 1 by kernel_rfl]
  show (match W.heap[1]? with | some (.cells cs _ _) => some cs | _ => none) = _
  rw [show W.heap[1]? = _ from h]
  rfl
theorem maxLen_cell {W : World} {G : Nat → Prop} (hgl : GlOk (g0 W G)) : ∃ n, W.cell? ⟨0, 0, none⟩ = some (.int .i64 n) := (hgl 0 [] rfl).2.2.1 rfl
theorem syntax_cell {W : World} {G : Nat → Prop} (hgl : GlOk (g0 W G)) : ∃ te pe, W.cell? ⟨2, 0, none⟩ = some (.iface te pe) := (hgl 2 [] rfl).2.2.2 rfl
theorem range_cell {W : World} {G : Nat → Prop} (hgl : GlOk (g0 W G)) : ∃ te pe, W.cell? ⟨3, 0, none⟩ = some (.iface te pe) := (hgl 3 [] rfl).2.2.2 rfl
def sItoa1 : CtF1
  | [.im (.val (.int .i64 n))] => some (Fit n, .im (.val (.string (strOfNums (Cn.itoaI n)))))
  | _ => none
theorem sItoa1_sound : Sound1G Tryz.prog 90 sItoa1 := by
  refine ⟨run_enters Tryz.func90 (by kernel_rfl) rfl, fun W G args vs p r hG hgl hσ hp hd => ?_⟩
  unfold sItoa1 at hσ
  split at hσ
  · rename_i n
    injection hσ with hσ
    injection hσ with h1 h2
    subst h1 h2
    obtain ⟨v, rfl, hv⟩ := denL1 hd
    rw [den_val hv]
    refine (Any.strconv_Itoa Tryz.shItoa n hp.1 hp.2 W (pow10_tab hgl)).mono fun e w' he => ?_
    obtain ⟨rfl, k, os, rfl⟩ := he
    refine ⟨_, rfl, Lib.below_grow _ W (Nat.le_refl _) k os, ?_⟩
    rw [← Cn.itoa_str]
    exact den_val_mk _
  · cases hσ
def sItoa : CtF := sItoa1.up
theorem sItoa_sound : Sound Tryz.prog 90 sItoa := sItoa1_sound.up
def sIndexS1 : CtF1
  | [.im (.val (.string s)), .im (.val (.string t))] => some (s.size ≤ 4294967280, .int (Lib.index s.data.toList t.data.toList))
  | _ => none
theorem sIndexS1_sound : Sound1G Tryz.prog 88 sIndexS1 := by
  refine ⟨run_enters Tryz.func88 (by kernel_rfl) rfl, fun W G args vs p r hG hgl hσ hp hd => ?_⟩
  unfold sIndexS1 at hσ
  split at hσ
  · rename_i s t
    injection hσ with hσ
    injection hσ with h1 h2
    subst h1 h2
    obtain ⟨v, u, rfl, hv, hu⟩ := denL2 hd
    rw [den_val hv, den_val hu]
    obtain ⟨m, hm⟩ := maxLen_cell hgl
    refine (Any.strings_Index Tryz.shIndex s t m W (by omega) hm).mono fun e w' he => ?_
    obtain ⟨rfl, rfl⟩ := he
    exact ⟨_, rfl, Below.refl _ _, den_val_mk _⟩
  · cases hσ
def sIndexS : CtF := sIndexS1.up
theorem sIndexS_sound : Sound Tryz.prog 88 sIndexS := sIndexS1_sound.up
def sAtoi1 : CtF1
  | [.im (.val (.string s))] => some (s.size ≤ 281474976710656, .tup [.int (Cn.atoiV s.data.toList).1, .err (Cn.atoiV s.data.toList).2])
  | _ => none
theorem den_err {g : Gh} {n : Int} {b : Bool} {v : Value} (h : if b = true then ∃ te pe, v = .iface te pe else v = .nilIface) : Den g (.tup [.int n, .err b]) (.tuple #[.int .i64 n, v]) := by
  simp only [Den, DenL]
  exact ⟨[.int .i64 n, v], rfl, _, _, rfl, .val _, _, _, rfl, h, rfl⟩
theorem sAtoi1_sound : Sound1G Tryz.prog 89 sAtoi1 := by
  refine ⟨run_enters Tryz.func89 (by kernel_rfl) rfl, fun W G args vs p r hG hgl hσ hp hd => ?_⟩
  unfold sAtoi1 at hσ
  split at hσ
  · rename_i s
    injection hσ with hσ
    injection hσ with h1 h2
    subst h1 h2
    obtain ⟨v, rfl, hv⟩ := denL1 hd
    rw [den_val hv]
    unfold Cn.atoiV
    cases ha : Lib.atoiAll s.data.toList with
    | ok n =>
      refine (Any.strconv_Atoi_ok Tryz.shAtoi s (by omega) n ha W).mono fun e w' he => ?_
      obtain ⟨rfl, hw⟩ := he
      refine ⟨_, rfl, ?_, den_err (by simp)⟩
      rcases hw with rfl | ⟨t, rfl⟩
      · exact Below.refl _ _
      · exact bytesWorld_bel W _ t
    | «syntax» =>
      obtain ⟨te, pe, hc⟩ := syntax_cell hgl
      refine (Any.strconv_Atoi_syntax Tryz.shAtoi s hp ha _ W hc (.inr ⟨te, pe, rfl⟩)).mono fun e w' he => ?_
      obtain ⟨N, rfl, _, _, hb⟩ := he
      exact ⟨_, rfl, hb, den_err (by simp)⟩
    | range =>
      obtain ⟨te, pe, hc⟩ := range_cell hgl
      refine (Any.strconv_Atoi_range Tryz.shAtoi s hp ha _ W hc (.inr ⟨te, pe, rfl⟩)).mono fun e w' he => ?_
      obtain ⟨N, rfl, _, _, hb⟩ := he
      exact ⟨_, rfl, hb, den_err (by simp)⟩
  · cases hσ
def sAtoi : CtF := sAtoi1.up
theorem sAtoi_sound : Sound Tryz.prog 89 sAtoi := sAtoi1_sound.up
def sSplit : CtF := fun args os => match args, os with
  | [.im (.val (.string s)), .im (.val (.string t))], [] => some (s.size ≤ 1000000 ∧ t = ⟨#[32]⟩, .row 0, [some (.row 9 (.strs ((Cn.splitI 32 (bytesI s)).map strOfNums)))])
  | _, _ => none
theorem sSplit_sound : Sound Tryz.prog 87 sSplit := by
  refine sound_newR (e := 9) (run_enters Tryz.func87 (by kernel_rfl) rfl) fun args os p r outs h => ?_
  unfold sSplit at h
  split at h
  · rename_i s t
    injection h with h
    injection h with h1 h
    injection h with h2 h3
    subst h1 h2 h3
    have hwl : (LD.strs ((Cn.splitI 32 (bytesI s)).map strOfNums)).len = (Cn.splitI 32 (bytesI s)).length := List.length_map ..
    have hcl := (Cn.splitI_len 32 (bytesI s)).1
    rw [bytesI_len] at hcl
    refine ⟨_, rfl, rfl, rfl, rfl, fun hp => ⟨by rw [hwl]; unfold maxLen; omega, fun W G vs hG hgl hd => ?_⟩⟩
    obtain ⟨hp1, hp2⟩ := hp
    subst hp2
    obtain ⟨v, u, rfl, hv, hu⟩ := denL2 hd
    rw [den_val hv, den_val hu]
    obtain ⟨m, hm⟩ := maxLen_cell hgl
    have hsp := Cn.split_is s.size s (Nat.le_refl _)
    have hcn := Lib.splitB_all ⟨#[32]⟩ (by decide) 0 _ s rfl
    rw [hsp, List.length_map] at hcn
    refine (Any.strings_Split Tryz.shSplit (by kernel_rfl) s ⟨#[32]⟩ m W (by omega) hm (by decide)).mono fun e w' he => ?_
    obtain ⟨rfl, rfl⟩ := he
    rw [hsp, ← hcn]
    refine ⟨_, ((Cn.splitI 32 (bytesI s)).map strOfNums).map Value.string, rfl, .inr ⟨W.heap.size, 0, _, _, by rw [List.length_map, List.length_map], .mk0 (heap_alloc_new _ _), ?_, ?_, ?_, fun j hj => ?_⟩, ?_, fun i hi => ?_, ((Below.refl _ W).alloc (Nat.le_refl _) _), fun g hg => ?_⟩
    · simp only [List.length_map]; exact Nat.le_refl _
    · unfold maxLen; omega
    · simp
    · simp at hj
      simp [hj]
    · rw [hwl]; simp
    · rw [hwl] at hi
      show Rep W G (.val (.string (((Cn.splitI 32 (bytesI s)).map strOfNums).getD i ByteArray.empty))) _
      have e : (((Cn.splitI 32 (bytesI s)).map strOfNums).map Value.string).getD i undef = .string (((Cn.splitI 32 (bytesI s)).map strOfNums).getD i ByteArray.empty) := by
        rw [List.getD_eq_getElem?_getD, List.getD_eq_getElem?_getD, List.getElem?_map, List.getElem?_map, List.getElem?_eq_getElem hi]; rfl
      rw [e]
      exact .val _
    · simp [Value.ownBlock] at hg; omega
  · cases h
end Go.Proofs.YtbpbndlgfiammaaGreatDoor.En
namespace Go.Proofs.YtbpbndlgfiammaaGreatDoor.En
open Go Go.RowKit Go.Shelf
def takeF (σ : CtF1) : CtF := fun args os => bif pureL (lend (objsH os) args) then (match σ (lend (objsH os) args) with | some (p, r) => (bif pureL [r] then some (p, r, os.map fun _ => none) else none) | none => none) else none
theorem outs_none {os : List AObj} {x : Nat} {o : AObj} : outsH (os.map fun _ => none) x ≠ some o := by
  intro h
  unfold outsH at h
  rw [List.getElem?_map] at h
  cases hx : os[x]? <;> rw [hx] at h <;> simp at h
theorem Sound1G.take {P : Program} {f : Nat} {σ : CtF1} (h : Sound1G P f σ) : Sound P f (takeF σ) := by
  refine ⟨h.1, fun g args os vs p r outs hσ hp hm hU hd => ?_⟩
  unfold takeF at hσ
  cases hb : pureL (lend (objsH os) args) with
  | false => rw [hb] at hσ; cases hσ
  | true =>
    rw [hb] at hσ
    simp only [cond_true] at hσ
    split at hσ
    · rename_i p' r' hs
      cases hr : pureL [r'] with
      | false => rw [hr] at hσ; cases hσ
      | true =>
        rw [hr] at hσ
        simp only [cond_true, Option.some.injEq, Prod.mk.injEq] at hσ
        obtain ⟨rfl, rfl, rfl⟩ := hσ
        let G2 : Nat → Prop := fun b => g.G b ∨ ∃ r o, objsH os r = some o ∧ blkOf (g.β r) = some b
        have hG2 : ∀ b, G2 b → b < g.W.heap.size := fun b hb => by
          rcases hb with hb | ⟨r, o, ho, hb⟩
          · exact (hm.gb b hb).1
          · exact (hm.ok r o ho).2.lt hb
        have hin2 : DenL ⟨g.W, G2, fun _ => undef, fun _ => False⟩ (lend (objsH os) args) vs := DenL.pure (g := lentG (objsH os) g) (g' := ⟨g.W, G2, fun _ => undef, fun _ => False⟩) rfl rfl _ _ hb (lend_den (fun _ _ h => h) hm args vs hd)
        refine Calls.mono (h.2 g.W G2 _ vs _ _ hG2 (fun k xs hk => ⟨.inl (hm.anc.2 k xs hk).1, (hm.anc.2 k xs hk).2⟩) hs hp hin2) fun e W' he => ?_
        obtain ⟨u, rfl, hbel, hdr⟩ := he
        let g' : Gh := ⟨W', fun b => G2 b ∨ (g.W.heap.size ≤ b ∧ b < W'.heap.size), g.β, g.U⟩
        have hle : g.le g' := ⟨fun b hg => hbel.block b (hm.gb b hg).1, fun _ hg => .inl (.inl hg), fun r hr => ⟨hr, rfl⟩⟩
        refine ⟨u, g', rfl, rfl, hle, ⟨fun r o hr => absurd hr outs_none, fun r r' o o' b hr => absurd hr outs_none, fun r o b hr => absurd hr outs_none, fun b hg => ?_, ⟨hbel.os, hbel.tape, hbel.output, hbel.size, fun k hk _ => hbel.block k hk⟩, hm.anc.1, hm.anc.2.up hle⟩, ?_⟩
        · rcases hg with hg | hg
          · refine ⟨Nat.lt_of_lt_of_le (hG2 b hg) hbel.size, ?_⟩
            rcases hg with hg | ⟨r, o, ho, hb⟩
            · exact .inl hg
            · exact .inr (hm.own r o b ho hb).2
          · exact ⟨hg.2, .inr (.inl hg.1)⟩
        · have := DenL.pure (g := ⟨W', fun b => G2 b ∨ (g.W.heap.size ≤ b ∧ b < W'.heap.size), fun _ => undef, fun _ => False⟩) (g' := g') rfl rfl [r'] [u] hr (by simp only [DenL]; exact ⟨u, [], rfl, hdr, rfl⟩)
          simp only [DenL] at this
          obtain ⟨_, _, e, q, _⟩ := this
          cases e
          exact q
    · cases hσ
def sCut1 : CtF1
  | [.im (.ls (.bytes b)), .im (.ls (.bytes s))] => some (0 < b.length ∧ b.length ≤ 1000000 ∧ Cn.isBytes b ∧ s = [10], .tup [.bytes (Cn.cutN b).1, .bytes (Cn.cutN b).2.1, .bool (Cn.cutN b).2.2])
  | _ => none
theorem bytes_at {W : World} {G : Nat → Prop} {xs : List Int} {v : Value} (h : Rep W G (.ls (.bytes xs)) v) (h0 : 0 < xs.length) :
    ∃ b off c, v = .slice (some ⟨b, off, none⟩) xs.length c ∧ xs.length ≤ c ∧ xs.length ≤ maxLen ∧ G b ∧ ∀ i, i < xs.length → W.cell? ⟨b, off + i, none⟩ = some (.int .u8 (xs.getD i 0)) := by
  rcases h.cases_ls with ⟨h1, _⟩ | ⟨b, off, c, u, rfl, h1, h2, h3, h4, h5⟩
  · have : xs.length = 0 := h1
    omega
  · refine ⟨b, off, c, rfl, h1, h2, h3, fun i hi => ?_⟩
    have h6 := h4 i 0 hi Nat.one_pos
    have h7 : Rep W G (.val (.int .u8 (xs.getD i 0))) (u i 0) := h5 i 0 hi Nat.one_pos
    have h8 : u i 0 = .int .u8 (xs.getD i 0) := den_val (g := g0 W G) (by simp only [Den]; exact h7)
    rw [h8] at h6
    have e : off + i * (LD.bytes xs).st + 0 = off + i := by show off + i * 1 + 0 = _; omega
    rw [e] at h6
    exact h6
theorem rep_bytes {W : World} {G : Nat → Prop} {xs : List Int} {b off c : Nat} (hc : xs.length ≤ c) (hm : xs.length ≤ maxLen) (hG : G b) (h : ∀ i, i < xs.length → W.cell? ⟨b, off + i, none⟩ = some (.int .u8 (xs.getD i 0))) : Rep W G (.ls (.bytes xs)) (.slice (some ⟨b, off, none⟩) xs.length c) :=
  .ls (.bytes xs) b off c (fun i _ => .int .u8 (xs.getD i 0)) hc hm hG (fun i j hi hj => by
    have hj0 : j = 0 := by have : (LD.bytes xs).st = 1 := rfl; omega
    subst hj0
    have e : off + i * (LD.bytes xs).st + 0 = off + i := by show off + i * 1 + 0 = _; omega
    rw [e]; exact h i hi) (fun i j hi hj => .val _)
theorem sCut1_sound : Sound1G Tryz.prog 57 sCut1 := by
  refine ⟨run_enters Tryz.func57 (by kernel_rfl) rfl, fun W G args vs p r hG hgl hσ hp hd => ?_⟩
  unfold sCut1 at hσ
  split at hσ
  · rename_i xs sp
    injection hσ with hσ
    injection hσ with h1 h2
    subst h1 h2
    obtain ⟨hp1, hp2, hp3, rfl⟩ := hp
    obtain ⟨v, u, rfl, hv, hu⟩ := denL2 hd
    simp only [Den] at hv hu
    obtain ⟨b, off, c, rfl, hc1, hc2, hc3, hc4⟩ := bytes_at hv hp1
    obtain ⟨b2, off2, c2, rfl, hd1, hd2, hd3, hd4⟩ := bytes_at hu (by decide)
    obtain ⟨m, hm⟩ := maxLen_cell hgl
    have hcut := Any.bytes_Cut_all Tryz.shCut (some ⟨b, off, none⟩) (some ⟨b2, off2, none⟩) xs.length c 1 c2 xs [10] m W rfl rfl hp3 (fun y hy => by rw [List.mem_singleton] at hy; omega)
      (Lib.BytesIn.of_cells fun i hi => by rw [add_mk]; exact hc4 i hi) (Lib.BytesIn.of_cells fun i hi => by rw [add_mk]; exact hd4 i hi) (fun h => by cases h) hc1 (by omega) (by omega) hm
    refine Calls.mono hcut fun e w' he => ?_
    obtain ⟨rfl, q, rfl⟩ := he
    have hbel : Below W.heap.size W (W.drewN q) := ⟨rfl, rfl, rfl, Nat.le_refl _, fun _ _ => rfl⟩
    have hb10 : Lib.bytesOf [10] = [10] := rfl
    rw [hb10]
    have fin : ∀ {v1 v2 : Value} {f : Bool} {x1 x2 : List Int}, Rep W G (.ls (.bytes x1)) v1 → Rep W G (.ls (.bytes x2)) v2 → Cn.cutN xs = (x1, x2, f) → ∀ G', (∀ b, G b → G' b) →
        Den ⟨W.drewN q, G', fun _ => undef, fun _ => False⟩ (.tup [.bytes (Cn.cutN xs).1, .bytes (Cn.cutN xs).2.1, .bool (Cn.cutN xs).2.2]) (.tuple #[v1, v2, .bool f]) := by
      intro v1 v2 f x1 x2 r1 r2 e G' hG'
      rw [e]
      simp only [Den, DenL]
      exact ⟨[v1, v2, .bool f], rfl, _, _, rfl, Rep.mono (W := W) (W' := W.drewN q) (fun _ _ => rfl) hG' r1, _, _, rfl, Rep.mono (W := W) (W' := W.drewN q) (fun _ _ => rfl) hG' r2, _, _, rfl, .val _, rfl⟩
    rcases Cn.cut_index hp3 with ⟨h1, h2⟩ | ⟨a, r, h1, h2, h3⟩
    · rw [h1]
      refine ⟨_, rfl, hbel, fin (rep_bytes hc1 hc2 hc3 hc4) (.nil (.bytes []) none 0 rfl) (Cn.cut_miss h2) _ (fun _ h => .inl h)⟩
    · rw [h3]
      have hl : xs.length = a.length + 1 + r.length := by rw [h1]; simp; omega
      have hV : Lib.cutV (some ⟨b, off, none⟩) xs.length c 1 (a.length : Int) = .tuple #[.slice (some ⟨b, off, none⟩) a.length c, Lib.fromV (some ⟨b, off, none⟩) xs.length c (a.length + 1), .bool true] := by
        unfold Lib.cutV; rw [if_pos (by omega)]; rfl
      rw [hV]
      refine ⟨_, rfl, hbel, fin ?_ ?_ (by rw [h1]; exact Cn.cut_hit h2) _ (fun _ h => .inl h)⟩
      · refine rep_bytes (by omega) (by omega) hc3 fun i hi => ?_
        rw [hc4 i (by omega), h1]
        simp [List.getD, List.getElem?_append_left hi]
      · unfold Lib.fromV
        have e1 : xs.length - (a.length + 1) = r.length := by omega
        rw [e1]
        by_cases h0 : r.length = 0
        · rw [h0]
          exact .nil (.bytes r) _ _ h0
        · rw [if_neg (by omega)]
          have e2 : Option.map (fun x : Addr => x.add (a.length + 1)) (some ⟨b, off, none⟩) = some ⟨b, off + (a.length + 1), none⟩ := by rw [Option.map_some, add_mk]
          rw [e2]
          refine rep_bytes (by omega) (by omega) hc3 fun i hi => ?_
          rw [show off + (a.length + 1) + i = off + (a.length + 1 + i) by omega, hc4 _ (by omega), h1]
          simp [List.getD, List.getElem?_append_right (show a.length ≤ a.length + 1 + i by omega), show a.length + 1 + i - a.length = i + 1 by omega]
  · cases hσ
def sCut : CtF := takeF sCut1
theorem sCut_sound : Sound Tryz.prog 57 sCut := sCut1_sound.take
end Go.Proofs.YtbpbndlgfiammaaGreatDoor.En
namespace Go.Proofs.YtbpbndlgfiammaaGreatDoor.En
open Go Go.RowKit Go.Shelf Go.Sort
theorem info_u8 : (Tryz.prog.info? 5).map (fun i => (i.zero, i.size, i.bytes)) = some (some (.int .u8 0), 1, 1) := by kernel_rfl
theorem ty_u8 : TyOk Tryz.prog 5 ⟨1, false, [.int .u8 0], [], none, 1, false, 2, 0⟩ := ⟨by kernel_rfl, by kernel_rfl, by kernel_rfl⟩
theorem wpList_appendS {P : Program} {w : World} {ops : Array Oper} {rest : List Oper} {o : Oper} {a : Act} {Q : Exit → Act → World → Prop} (hgd : o.guard = none) (s x : Operand) (t tx : TypeId)
    (ho : o.op = .call { callee := .builtin .append, args := #[s, x], argTypes := #[t, tx] })
    (e : TypeId) (ed : TD) (ht : P.underlying t = some (.slice e)) (htx : P.underlying tx = some .string) (hed : TyOk P e ed) (h1 : ed.size = 1) (hz1 : ed.zero.length = 1) (hb1 : ed.bytes = 1)
    (v : Value) (xs : List Value) (n : Nat) (hlen : xs.length = n) (hs : a.eval s = v) (hown : Own w e v xs) (z : ByteArray) (hx : a.eval x = .string z) (hbytes : n + z.size ≤ 140737488355328)
    (h : ∀ A' cap w', Own w' e (.slice A' (n + z.size) cap) (xs ++ Lib.strCells z) → w.grownBy w' v.ownBlock → (∀ g, (Value.slice A' (n + z.size) cap).ownBlock = some g → v.ownBlock = some g ∨ g = w.heap.size) →
      wpList P ops Q rest (a.put o.dst (.slice A' (n + z.size) cap)) w') : wpList P ops Q (o :: rest) a w := by
  refine wpList_plain hgd fun _ hK => ?_
  obtain ⟨v', W', hr, h2, h3, h4⟩ := run_appendS (P := P) w (ty := o.type) ht htx hed h1 hz1 (by omega) hown z (by rw [hlen, hb1]; omega)
  obtain ⟨A', cap, hf, _⟩ := h2.form
  have hl : (xs ++ Lib.strCells z).length = n + z.size := by rw [List.length_append, hlen, Lib.strCells_length]
  rw [hl] at hf
  subst hf
  unfold Oper.wp execOp
  simp only [ho, resolve, invoke, builtin, Sem.run_bind, Sem.run_pure, Result.andThen_ok, List.map_toArray, List.map_cons, List.map_nil, hs, hx, hr]
  exact hK _ _ (h A' cap W' h2 h3 h4)
set_option maxRecDepth 100000 in
set_option maxHeartbeats 800000 in
theorem appU_small {v : Value} {us : List Value} {n : Nat} {w : World} (u : Nat) (hu : u < 100) (hn : us.length = n) (hown : Own w 5 v us) (hlim : n + 20 ≤ 140737488355328) :
    Calls Tryz.prog 111 #[v, .int .u64 u, .int .i64 10] w fun e w' => ∃ A cap, e = .returned (.slice A (n + Lib.nDigits u) cap) ∧ Own w' 5 (.slice A (n + Lib.nDigits u) cap) (us ++ Lib.byteCells (Lib.decDigits u)) ∧ w.grownBy w' v.ownBlock ∧ ∀ b, (Value.slice A (n + Lib.nDigits u) cap).ownBlock = some b → v.ownBlock = some b ∨ w.heap.size ≤ b := by
  have hsm := Any.internal_strconv_small { Tryz.shAppU with } u hu w
  have hsz : (⟨(Lib.decDigits u).toArray⟩ : ByteArray).size = Lib.nDigits u := by rw [← Lib.decDigits_length]; simp [ByteArray.size]
  have hnd : Lib.nDigits u ≤ 20 := by
    by_cases h10 : u < 10
    · rw [Lib.nDigits_small h10]; omega
    · rw [Lib.nDigits_big h10, Lib.nDigits_small (show u / 10 < 10 by omega)]; omega
  have hcl : Lib.strCells ⟨(Lib.decDigits u).toArray⟩ = Lib.byteCells (Lib.decDigits u) := by simp [Lib.strCells, Lib.byteCells]
  have HS := Lib.hid hsm
  have HO := Lib.hid hown
  have HN := Lib.hid hn
  have iu : (u : Int) < 100 := by omega
  clear hsm hown hn
  go_enter Tryz.func111, Tryz.ntmps111
  go_wp2_with (first
    | (go_at_call 131; refine HS.out.mono ?_; rintro e w' ⟨rfl, rfl⟩)
    | (at_builtin; refine wpList_appendS rfl _ _ 34 9 rfl 5 _ Tryz.underlying34 Tryz.underlying9 ty_u8 rfl rfl rfl _ us n HN.out rfl HO.out ⟨(Lib.decDigits u).toArray⟩ rfl (by rw [hsz]; omega) ?_))
  first | rw [hsz, hcl] | skip
  intro A' cap w1 h1 h2 h3
  have H1 := Lib.hid h1
  have H2 := Lib.hid h2
  have H3 := Lib.hid h3
  clear h1 h2 h3
  go_wp2
  go_ret
  exact ⟨A', cap, rfl, H1.out, H2.out, fun b hb => (H3.out b hb).imp id fun e => by omega⟩
set_option maxRecDepth 100000 in
set_option maxHeartbeats 1600000 in
theorem appU_big {v : Value} {us : List Value} {n : Nat} {w : World} (u : Nat) (hu : 100 ≤ u) (hu64 : u < 18446744073709551616) (hn : us.length = n) (hown : Own w 5 v us) (hlim : n + 20 ≤ 140737488355328)
    (htab : Lib.TabIs Tryz.prog w "internal/strconv.uint64pow10" .u64 Lib.pow10Tab) :
    Calls Tryz.prog 111 #[v, .int .u64 u, .int .i64 10] w fun e w' => ∃ A cap, e = .returned (.slice A (n + Lib.nDigits u) cap) ∧ Own w' 5 (.slice A (n + Lib.nDigits u) cap) (us ++ Lib.byteCells (Lib.decDigits u)) ∧ w.grownBy w' v.ownBlock ∧ ∀ b, (Value.slice A (n + Lib.nDigits u) cap).ownBlock = some b → v.ownBlock = some b ∨ w.heap.size ≤ b := by
  obtain ⟨i0, hi, hz0, hz1, hz2⟩ := info_ofL info_u8
  have hu1 : 1 ≤ u := by omega
  have hnd20 : Lib.nDigits u ≤ 20 := by have := Lib.numDigits_eq u hu1 hu64; split at this <;> omega
  have hal : Tryz.prog.arrayLen 138 = 24 := by kernel_rfl
  have hsl : ∀ W, (Instr.sliceAt 138 (.pointer (some ⟨w.heap.size, 0, none⟩)) none (some (.int .i64 (Lib.nDigits u : Int))) none).run Tryz.prog W = .ok (.slice (some ⟨w.heap.size, 0, none⟩) (Lib.nDigits u) 24) W := fun W => by
    rw [run_sliceAt_array_h W 138 ⟨w.heap.size, 0, none⟩ (by kernel_rfl) .i64 (Lib.nDigits u : Int) (by omega) (by rw [hal]; omega)]
    go_simp
  have hH0 := Lib.holds_zero0 w 138 (Lib.nDigits u) (by omega)
  have hfmt := Any.internal_strconv_formatBase10 { Tryz.shAppU with } w.heap.size 0 24 u (Array.replicate (Lib.nDigits u) 0) (w.alloc (.cells Lib.zeros24 138)) hH0 (by rw [Array.size_replicate]; exact Lib.lt_pow_nDigits u) hu64 (by rw [Array.size_replicate]; omega)
  rw [Array.size_replicate] at hfmt
  have hnum := Any.internal_strconv_numDigits { Tryz.shAppU with } u hu1 hu64 _ (Lib.tabIs_alloc htab (.cells Lib.zeros24 138))
  have HH0 := Lib.hid hH0
  have HF := Lib.hid hfmt
  have HM := Lib.hid hnum
  have HO := Lib.hid hown
  have HN := Lib.hid hn
  have iu : (100 : Int) ≤ (u : Int) := by omega
  clear hH0 hal hfmt hnum hown hn htab
  go_enter Tryz.func111, Tryz.ntmps111
  go_wp2_with (go_at_call 132; refine HM.out.mono ?_; rintro e w' ⟨rfl, rfl⟩)
  go_at_call 133
  refine HF.out.mono ?_
  rintro e w' ⟨rfl, k, v', dk, rfl, hF⟩
  have hcells : ∀ j u', (Lib.byteCells (Lib.decDigits u))[j]? = some u' → ((putRow (fun (b : UInt8) => Value.int .u8 (b.toNat : Int)) (w.alloc (.cells Lib.zeros24 138)) w.heap.size 0 dk).drewN k).cell? ((⟨w.heap.size, 0, none⟩ : Addr).add j) = some u' := by
    intro j u' hj
    have hjl : j < (Lib.decDigits u).length := by
      have h5 := (List.getElem?_eq_some_iff.1 hj).1
      rwa [Lib.byteCells_length] at h5
    have e5 : (Lib.byteCells (Lib.decDigits u))[j]? = some (Value.int .u8 ((Lib.decDigits u)[j].toNat : Int)) := by simp [Lib.byteCells, hjl]
    rw [e5] at hj
    cases hj
    rw [Lib.row_is_numeral hF j hjl, Lib.add_plain, World.cell?_drewN]
    exact cell?_putRow (fun (b : UInt8) => Value.int .u8 (b.toNat : Int)) _ w.heap.size 0 _ dk HH0.out (by rw [hF.size, Array.size_replicate]) j (by rw [hF.size]; rw [Lib.decDigits_length] at hjl; exact hjl)
  obtain ⟨os, eo⟩ := Lib.fin_at w (.cells Lib.zeros24 138) dk k 0
  have hbel : Below w.heap.size w ((putRow (fun (b : UInt8) => Value.int .u8 (b.toNat : Int)) (w.alloc (.cells Lib.zeros24 138)) w.heap.size 0 dk).drewN k) := by rw [eo]; exact Lib.below_grow w.heap.size w (Nat.le_refl _) k os
  generalize (putRow (fun (b : UInt8) => Value.int .u8 (b.toNat : Int)) (w.alloc (.cells Lib.zeros24 138)) w.heap.size 0 dk).drewN k = W2 at hcells hbel ⊢
  have hown2 : Own W2 5 v us := HO.out.keep fun g hg => hbel.block g (HO.out.lt hg)
  have HO2 := Lib.hid hown2
  have HC := Lib.hid hcells
  have HB := Lib.hid hbel
  have HL := Lib.hid (show (Lib.byteCells (Lib.decDigits u)).length = Lib.nDigits u by rw [Lib.byteCells_length, Lib.decDigits_length])
  clear eo hown2 hcells hbel hF
  go_wp2_with (at_builtin; refine wpList_appendR _ rfl _ _ 34 rfl 5 i0 (.int .u8 0) 1 Tryz.underlying34 hi hz0 hz1 hz2 rfl _ us n HN.out rfl HO2.out (some ⟨w.heap.size, 0, none⟩) 24 (Lib.byteCells (Lib.decDigits u)) (Lib.nDigits u) HL.out rfl (.inr ⟨_, rfl, HC.out⟩) ?c2 (by unfold maxLen; omega) (by omega) ?_)
  case c2 => intro u' hu'; simp only [Lib.byteCells, List.mem_map] at hu'; obtain ⟨b, _, rfl⟩ := hu'; rfl
  intro A' cap w1 h1 h2 h3
  have H1 := Lib.hid h1
  have H2 := Lib.hid h2
  have H3 := Lib.hid h3
  clear h1 h2 h3
  go_wp2
  go_ret
  have hg2 : w.grownBy w1 v.ownBlock := ⟨H2.out.os.trans HB.out.os, H2.out.tape.trans HB.out.tape, H2.out.output.trans HB.out.output, Nat.le_trans HB.out.size H2.out.size, fun b hb hne => (H2.out.block b (Nat.lt_of_lt_of_le hb HB.out.size) hne).trans (HB.out.block b hb)⟩
  exact ⟨A', cap, rfl, H1.out, hg2, fun b hb => (H3.out b hb).imp id fun e => by have := HB.out.size; omega⟩
theorem appU {v : Value} {us : List Value} {n : Nat} {w : World} (u : Nat) (hu64 : u < 18446744073709551616) (hn : us.length = n) (hown : Own w 5 v us) (hlim : n + 20 ≤ 140737488355328)
    (htab : Lib.TabIs Tryz.prog w "internal/strconv.uint64pow10" .u64 Lib.pow10Tab) :
    Calls Tryz.prog 111 #[v, .int .u64 u, .int .i64 10] w fun e w' => ∃ A cap, e = .returned (.slice A (n + Lib.nDigits u) cap) ∧ Own w' 5 (.slice A (n + Lib.nDigits u) cap) (us ++ Lib.byteCells (Lib.decDigits u)) ∧ w.grownBy w' v.ownBlock ∧ ∀ b, (Value.slice A (n + Lib.nDigits u) cap).ownBlock = some b → v.ownBlock = some b ∨ w.heap.size ≤ b := by
  by_cases h : u < 100
  · exact appU_small u h hn hown hlim
  · exact appU_big u (by omega) hu64 hn hown hlim htab
theorem Own.allocO {w : World} {e : TypeId} {v : Value} {xs : List Value} (h : Own w e v xs) (o : Obj) : Own (w.alloc o) e v xs := h.keep fun g hg => Below.heap_alloc w o g (h.lt hg)
set_option maxRecDepth 100000 in
set_option maxHeartbeats 800000 in
theorem appI {v : Value} {us : List Value} {n : Nat} {w : World} (i : Int) (h0 : -9223372036854775808 ≤ i) (h1 : i ≤ 9223372036854775807) (hn : us.length = n) (hown : Own w 5 v us) (hlim : n + 21 ≤ 140737488355328)
    (htab : ∀ w', Below w.heap.size w w' ∨ (∃ r, w.grownBy w' r ∧ r = v.ownBlock) → Lib.TabIs Tryz.prog w' "internal/strconv.uint64pow10" .u64 Lib.pow10Tab) :
    Calls Tryz.prog 84 #[v, .int .i64 i, .int .i64 10] w fun e w' => ∃ A cap, e = .returned (.slice A (n + (Lib.itoa i).length) cap) ∧ Own w' 5 (.slice A (n + (Lib.itoa i).length) cap) (us ++ Lib.byteCells (Lib.itoa i)) ∧ w.grownBy w' v.ownBlock ∧ ∀ b, (Value.slice A (n + (Lib.itoa i).length) cap).ownBlock = some b → v.ownBlock = some b ∨ w.heap.size ≤ b := by
  obtain ⟨i0, hi, hz0, hz1, hz2⟩ := info_ofL info_u8
  have HT := Lib.hid htab
  clear htab
  by_cases hneg : i < 0
  · obtain ⟨u, rfl⟩ : ∃ u : Nat, i = -(u : Int) := ⟨i.natAbs, by omega⟩
    have hu1 : 1 ≤ u := by omega
    have hu64 : u < 18446744073709551616 := by omega
    have hwr : IntKind.u64.wrap (-IntKind.u64.wrap (-(u : Int))) = (u : Int) := by rw [IntKind.wrap_u64, IntKind.wrap_u64]; omega
    rw [Lib.itoa_neg u hu1]
    have HO := Lib.hid (Own.allocO hown (.cells #[.int .u8 45] 5))
    have HV := Lib.hid (fun g (hg : v.ownBlock = some g) => hown.lt hg)
    have HN := Lib.hid hn
    have hlen1 : (us ++ [Value.int .u8 45]).length = n + 1 := by simp [hn]
    have HL1 := Lib.hid hlen1
    have HND := Lib.hid (Lib.decDigits_length u)
    clear hown hn hlen1
    go_enter Tryz.func84, Tryz.ntmps84
    go_wp2_with (at_builtin; refine wpList_appendR _ rfl _ _ 34 rfl 5 i0 (.int .u8 0) 1 Tryz.underlying34 hi hz0 hz1 hz2 rfl _ us n HN.out rfl HO.out (some ⟨w.heap.size, 0, none⟩) 1 [Value.int .u8 45] 1 rfl rfl (.inr ⟨_, rfl, by intro j u' hj; match j, hj with | 0, hj => simp at hj; subst hj; simp [Addr.add]⟩) (by intro u' hu'; simp at hu'; subst hu'; rfl) (by unfold maxLen; omega) (by omega) ?_)
    intro A1 cap1 w1 k1 k2 k3
    have K1 := Lib.hid k1
    have K2 := Lib.hid k2
    have K3 := Lib.hid k3
    have K4 := Lib.hid (show w.grownBy w1 v.ownBlock from ⟨k2.os, k2.tape, k2.output, Nat.le_trans (by simp) k2.size, fun b hb hne => (k2.block b (by simp; omega) hne).trans (Below.heap_alloc w _ b hb)⟩)
    have K5 := Lib.hid (HT.out w1 (.inr ⟨_, K4.out, rfl⟩))
    clear k1 k2 k3
    go_wp2_with fail
    go_at_call 111
    refine (appU u hu64 HL1.out K1.out (by omega) K5.out).mono ?_
    rintro e w2 ⟨A2, cap2, rfl, q1, q2, q3⟩
    have Q1 := Lib.hid q1
    have Q2 := Lib.hid q2
    have Q3 := Lib.hid q3
    clear q1 q2 q3
    go_wp2_with fail
    go_ret
    have hw : ∀ b, (Value.slice A1 (n + 1) cap1).ownBlock = some b → v.ownBlock = some b ∨ w.heap.size ≤ b := fun b hb => (K3.out b hb).imp id fun e => by first | omega | (simp at e; omega)
    have e1 : n + ((Lib.decDigits u).length + 1) = n + 1 + Lib.nDigits u := by rw [HND.out]; omega
    have e2 : us ++ Lib.byteCells (45 :: Lib.decDigits u) = us ++ [Value.int .u8 45] ++ Lib.byteCells (Lib.decDigits u) := by simp [Lib.byteCells]
    rw [e1, e2]
    refine ⟨A2, cap2, rfl, Q1.out, ⟨Q2.out.os.trans K4.out.os, Q2.out.tape.trans K4.out.tape, Q2.out.output.trans K4.out.output, Nat.le_trans K4.out.size Q2.out.size, fun b hb hne => (Q2.out.block b (Nat.lt_of_lt_of_le hb K4.out.size) (fun e => ?_)).trans (K4.out.block b hb hne)⟩, fun b hb => ?_⟩
    · rcases hw b e.symm with h | h
      · exact hne h.symm
      · omega
    · rcases Q3.out b hb with h | h
      · exact hw b h
      · exact .inr (Nat.le_trans K4.out.size h)
  · obtain ⟨u, rfl⟩ : ∃ u : Nat, i = u := ⟨i.toNat, by omega⟩
    have hu64 : u < 18446744073709551616 := by omega
    rw [Lib.itoa_nonneg]
    have HO := Lib.hid hown
    have HN := Lib.hid hn
    have HND := Lib.hid (Lib.decDigits_length u)
    have K5 := Lib.hid (HT.out w (.inl (Below.refl _ _)))
    clear hown hn
    go_enter Tryz.func84, Tryz.ntmps84
    go_wp2_with fail
    go_at_call 111
    refine (appU u hu64 HN.out HO.out (by omega) K5.out).mono ?_
    rintro e w2 ⟨A2, cap2, rfl, q1, q2, q3⟩
    have Q1 := Lib.hid q1
    have Q2 := Lib.hid q2
    have Q3 := Lib.hid q3
    clear q1 q2 q3
    go_wp2_with fail
    first | go_ret | go_ret2
    rw [HND.out]
    exact ⟨A2, cap2, rfl, Q1.out, Q2.out, Q3.out⟩
def sAppI : CtF := fun args os => match args, os with
  | [.row 0, .im (.val (.int .i64 i)), .im (.val (.int .i64 b))], [.row 5 (.bytes xs)] => some (Fit i ∧ b = 10 ∧ xs.length + 21 ≤ 1000000000000, .row 1, [none, some (.row 5 (.bytes (xs ++ Cn.itoaI i)))])
  | _, _ => none
theorem sAppI_sound : Sound Tryz.prog 84 sAppI := by
  refine sound_rowR (e := 5) (run_enters Tryz.func84 (by kernel_rfl) rfl) fun args os p r outs h => ?_
  unfold sAppI at h
  split at h
  · rename_i i bs xs
    injection h with h
    injection h with h1 h
    injection h with h2 h3
    subst h1 h2 h3
    refine ⟨_, .bytes xs, .bytes (xs ++ Cn.itoaI i), rfl, rfl, rfl, rfl, rfl, rfl, rfl, fun hp => ⟨?_, fun W G v vs us hG hn hgl ho hul hrep hmx hd => ?_⟩⟩
    · obtain ⟨⟨hp1, hp2⟩, hp3, hp4⟩ := hp
      have := Cn.itoa_len hp1 hp2
      show (xs ++ Cn.itoaI i).length ≤ maxLen
      rw [List.length_append]; unfold maxLen; omega
    · obtain ⟨⟨hp1, hp2⟩, rfl, hp4⟩ := hp
      obtain ⟨u1, u2, rfl, d1, d2⟩ := denL2 hd
      rw [den_val d1, den_val d2]
      have hul' : us.length = xs.length := hul
      have hlen : (Lib.itoa i).length = (Cn.itoaI i).length := by unfold Cn.itoaI; rw [List.length_map]
      have htab : ∀ w', Below W.heap.size W w' ∨ (∃ r, W.grownBy w' r ∧ r = v.ownBlock) → Lib.TabIs Tryz.prog w' "internal/strconv.uint64pow10" .u64 Lib.pow10Tab := fun w' h => by
        have hgk := (hgl 1 (g_pow10.map (Value.int .u64)) rfl).1
        refine pow10_tab (G := fun b => G b ∧ w'.heap[b]? = W.heap[b]?) fun k ys hk => ?_
        obtain ⟨q1, q2⟩ := hgl k ys hk
        have hkk : w'.heap[k]? = W.heap[k]? := by
          rcases h with h | ⟨r, h, rfl⟩
          · exact h.block k (hG k q1)
          · exact h.block k (hG k q1) fun e => hn k e.symm q1
        exact ⟨⟨q1, hkk⟩, q2.keep hkk⟩
      refine Calls.mono (appI (n := xs.length) i hp1 hp2 hul' ho (by omega) htab) fun e w' he => ?_
      obtain ⟨A, cap, rfl, k1, k2, k3⟩ := he
      refine ⟨_, _, rfl, k1, ?_, fun k hk => ?_, k2, k3⟩
      · show (us ++ Lib.byteCells (Lib.itoa i)).length = (xs ++ Cn.itoaI i).length
        rw [List.length_append, List.length_append, Lib.byteCells_length, hul', hlen]
      · have hk' : k < xs.length + (Cn.itoaI i).length := by
          have : k < (xs ++ Cn.itoaI i).length := hk
          rwa [List.length_append] at this
        show Rep W G (.val (.int .u8 ((xs ++ Cn.itoaI i).getD k 0))) _
        rw [Cn.bytesC_itoa]
        unfold Cn.bytesC
        by_cases hlt : k < xs.length
        · have e1 : (xs ++ Cn.itoaI i).getD k 0 = xs.getD k 0 := by simp [List.getD, List.getElem?_append_left hlt]
          have e2 : (us ++ (Cn.itoaI i).map (Value.int .u8)).getD k undef = us.getD k undef := by simp [List.getD, List.getElem?_append_left (show k < us.length by omega)]
          rw [e1, e2]
          exact hrep k hlt
        · obtain ⟨q, rfl⟩ : ∃ q, k = xs.length + q := ⟨k - xs.length, by omega⟩
          have hq : q < (Cn.itoaI i).length := by omega
          have e1 : (xs ++ Cn.itoaI i).getD (xs.length + q) 0 = (Cn.itoaI i).getD q 0 := by simp [List.getD, List.getElem?_append_right (show xs.length ≤ xs.length + q by omega)]
          have e2 : (us ++ (Cn.itoaI i).map (Value.int .u8)).getD (xs.length + q) undef = .int .u8 ((Cn.itoaI i).getD q 0) := by
            rw [← hul']
            simp [List.getD, List.getElem?_append_right (show us.length ≤ us.length + q by omega), List.getElem?_eq_getElem hq]
          rw [e1, e2]
          exact .val _
  · cases h
end Go.Proofs.YtbpbndlgfiammaaGreatDoor.En
namespace Go.Proofs.YtbpbndlgfiammaaGreatDoor.Cn
open Go Go.RowKit En
abbrev oldS : ByteArray := ⟨#[32, 111, 108, 100]⟩
def letW (k : Int) : Int := (bytesI oldS).getD k.toNat 0
def litsW (l : List Int) : List Int := l.flatMap fun y => 32 :: itoaI y
def lineB (x : Int × List Int) : List Int := letW x.1 :: (litsW x.2 ++ [32, 48, 10])
def putP (p : List (Int × List Int)) : List Int := p.flatMap lineB
def szP (p : List (Int × List Int)) : Nat := (p.map fun x => 1 + x.2.length).sum
theorem litsW_next {l : List Int} {k : Nat} (hk : k < l.length) (X : List Int) : ((X ++ litsW (l.take k)) ++ [32]) ++ itoaI (l.getD k 0) = X ++ litsW (l.take (k + 1)) := by
  have e : l.take (k + 1) = l.take k ++ [l.getD k 0] := by rw [List.take_add_one]; simp [List.getD, List.getElem?_eq_getElem hk]
  rw [e]; simp [litsW]
theorem putP_next {p : List (Int × List Int)} {i : Nat} (hi : i < p.length) : ((putP (p.take i) ++ [letW (p.getD i (0, [])).1]) ++ litsW (p.getD i (0, [])).2) ++ [32, 48, 10] = putP (p.take (i + 1)) := by
  have e : p.take (i + 1) = p.take i ++ [p.getD i (0, [])] := by rw [List.take_add_one]; simp [List.getD, List.getElem?_eq_getElem hi]
  rw [e]; simp [putP, lineB]
theorem tail_bytes : bytesI (⟨#[32, 48, 10]⟩ : ByteArray) = [32, 48, 10] := by decide
theorem putP_step {p : List (Int × List Int)} {i k : Nat} (hi : i < p.length) (hk : k = (p.getD i (0, [])).2.length) : ((putP (p.take i) ++ [letW (p.getD i (0, [])).1]) ++ litsW ((p.getD i (0, [])).2.take k)) ++ bytesI (⟨#[32, 48, 10]⟩ : ByteArray) = putP (p.take (i + 1)) := by
  rw [tail_bytes, hk, List.take_length, putP_next hi]
theorem litsW_len {l : List Int} (h : ∀ x ∈ l, -65536 ≤ x ∧ x ≤ 65536) : (litsW l).length ≤ 22 * l.length := by
  induction l with
  | nil => simp [litsW]
  | cons x l ih =>
    have h1 := ih fun y hy => h y (List.mem_cons_of_mem _ hy)
    have h2 := h x List.mem_cons_self
    have h3 := itoa_len (n := x) (by omega) (by omega)
    have e : litsW (x :: l) = 32 :: itoaI x ++ litsW l := by simp [litsW]
    rw [e]; simp only [List.length_cons, List.length_append]; omega
theorem putP_len {p : List (Int × List Int)} (h : ∀ x ∈ p, ∀ y ∈ x.2, -65536 ≤ y ∧ y ≤ 65536) : (putP p).length ≤ 22 * szP p := by
  induction p with
  | nil => simp [putP, szP]
  | cons x p ih =>
    have h1 := ih fun y hy => h y (List.mem_cons_of_mem _ hy)
    have h2 := litsW_len (h x List.mem_cons_self)
    have e : putP (x :: p) = lineB x ++ putP p := by simp [putP]
    have e2 : szP (x :: p) = 1 + x.2.length + szP p := by simp [szP]
    rw [e, e2]; simp only [List.length_append, lineB, List.length_cons, List.length_nil]; omega
theorem szP_app (p q : List (Int × List Int)) : szP (p ++ q) = szP p + szP q := by simp [szP]
theorem szP_at {p : List (Int × List Int)} {i : Nat} (hi : i < p.length) : szP (p.take i) + (1 + (p.getD i (0, [])).2.length) ≤ szP p := by
  have e : p = p.take i ++ ([p.getD i (0, [])] ++ p.drop (i + 1)) := by
    conv => lhs; rw [← List.take_append_drop i p, List.drop_eq_getElem_cons hi]
    simp [List.getD, List.getElem?_eq_getElem hi]
  conv => rhs; rw [e]
  rw [szP_app, szP_app]
  have : szP [p.getD i (0, [])] = 1 + (p.getD i (0, [])).2.length := by simp [szP]
  omega
theorem szP_take (p : List (Int × List Int)) (i : Nat) : szP (p.take i) ≤ szP p := by
  conv => rhs; rw [← List.take_append_drop i p, szP_app]
  omega
theorem len_szP (p : List (Int × List Int)) : p.length ≤ szP p := by
  induction p with
  | nil => simp
  | cons x p ih => have e2 : szP (x :: p) = 1 + x.2.length + szP p := by simp [szP]
                   rw [e2]; simp only [List.length_cons]; omega
theorem mem_szP {p : List (Int × List Int)} {x : Int × List Int} (hx : x ∈ p) : x.2.length < szP p := by
  obtain ⟨i, hi, rfl⟩ := List.getElem_of_mem hx
  have := szP_at hi
  rw [show p.getD i (0, []) = p[i] by simp [List.getD, List.getElem?_eq_getElem hi]] at this
  omega
theorem put_le {p : List (Int × List Int)} (h : ∀ x ∈ p, ∀ y ∈ x.2, -65536 ≤ y ∧ y ≤ 65536) (i : Nat) : (putP (p.take i)).length ≤ 22 * szP p := by
  have := putP_len (p := p.take i) fun x hx => h x (List.mem_of_mem_take hx)
  have := szP_take p i
  omega
theorem put_in24 {p : List (Int × List Int)} {i : Nat} (h : ∀ x ∈ p, ∀ y ∈ x.2, -65536 ≤ y ∧ y ≤ 65536) (hi : i < p.length) (k : Nat) :
    (putP (p.take i)).length + (litsW ((p.getD i (0, [])).2.take k)).length ≤ 22 * szP p := by
  have h1 := putP_len (p := p.take i) fun x hx => h x (List.mem_of_mem_take hx)
  have h2 := szP_at hi
  have hm : p.getD i (0, []) ∈ p := by rw [show p.getD i (0, []) = p[i] by simp [List.getD, List.getElem?_eq_getElem hi]]; exact List.getElem_mem _
  have h3 := litsW_len (l := (p.getD i (0, [])).2.take k) fun x hx => h _ hm x (List.mem_of_mem_take hx)
  have h4 : ((p.getD i (0, [])).2.take k).length ≤ (p.getD i (0, [])).2.length := by rw [List.length_take]; omega
  omega
theorem frm_lits {p : List (Int × List Int)} (h : frmV p = 0) : p.length ≤ 65536 ∧ (∀ x ∈ p, 1 ≤ x.1 ∧ x.1 ≤ 3) ∧ ∀ x ∈ p, ∀ y ∈ x.2, -65536 ≤ y ∧ y ≤ 65536 := by
  obtain ⟨h1, h2⟩ := frm_ok.1 h
  have h3 : ∀ x ∈ p, lineOk x = true := List.all_eq_true.1 h2
  refine ⟨h1, fun x hx => ?_, fun x hx y hy => ?_⟩
  · have := h3 x hx
    unfold lineOk at this
    simp only [Bool.and_eq_true, decide_eq_true_eq] at this
    exact this.1
  · have := h3 x hx
    unfold lineOk at this
    simp only [Bool.and_eq_true, List.all_eq_true] at this
    exact (mayP_iff.1 (this.2 y hy)).2
theorem put_frm {p : List (Int × List Int)} (h : szP p ≤ 1000000000) : p.length ≤ maxLen ∧ ∀ x ∈ p, x.2.length ≤ maxLen := by
  have := len_szP p
  exact ⟨by unfold maxLen; omega, fun x hx => by have := mem_szP hx; unfold maxLen; omega⟩
theorem let_in {k : Int} (h : 1 ≤ k ∧ k ≤ 3) : 0 ≤ k ∧ k < ((⟨#[32, 111, 108, 100]⟩ : ByteArray).size : Int) := by
  have : (⟨#[32, 111, 108, 100]⟩ : ByteArray).size = 4 := rfl
  rw [this]; omega
theorem getD_memI {l : List Int} {k : Nat} (h : k < l.length) : l.getD k 0 ∈ l := by
  rw [show l.getD k 0 = l[k] by simp [List.getD, List.getElem?_eq_getElem h]]; exact List.getElem_mem _
def putV (p : List (Int × List Int)) : List Int := if frmV p = 0 then putP p else []
theorem putV_yes {p : List (Int × List Int)} {i : Nat} (h : frmV p = 0) (hi : i = p.length) : putP (p.take i) = putV p := by unfold putV; rw [if_pos h, hi, List.take_length]
theorem putV_no {p : List (Int × List Int)} (h : ¬ frmV p = 0) : [] = putV p := by unfold putV; rw [if_neg h]
def getF : Nat → List Int → Option (List (Int × List Int))
  | _, [] => some []
  | 0, _ :: _ => none
  | n + 1, x :: r => if ((cutN (x :: r)).2.2 && lnOk (cutN (x :: r)).1) = true then (getF n (cutN (x :: r)).2.1).map ((lnK (cutN (x :: r)).1, lnL (cutN (x :: r)).1) :: ·) else none
theorem cut_cases (xs : List Int) : (cutN xs).2.2 = false ∨ ∃ a r, xs = a ++ 10 :: r ∧ (10 : Int) ∉ a ∧ cutN xs = (a, r, true) := by
  by_cases h : (10 : Int) ∈ xs
  · obtain ⟨a, r, h1, h2⟩ : ∃ a r, xs = a ++ 10 :: r ∧ (10 : Int) ∉ a := by
      induction xs with
      | nil => cases h
      | cons x xs ih =>
        by_cases hx : x = 10
        · exact ⟨[], xs, by rw [hx]; rfl, by simp⟩
        · obtain ⟨a, r, h1, h2⟩ := ih (by rcases List.mem_cons.1 h with h | h; exact absurd h.symm hx; exact h)
          exact ⟨x :: a, r, by rw [h1]; rfl, by simp only [List.mem_cons, not_or]; exact ⟨fun e => hx e.symm, h2⟩⟩
    exact .inr ⟨a, r, h1, h2, by rw [h1, cut_hit h2]⟩
  · exact .inl (by rw [cut_miss h])
theorem cut_lt {xs : List Int} (h : (cutN xs).2.2 = true) : (cutN xs).2.1.length < xs.length ∧ (cutN xs).1.length < xs.length ∧ ∀ x, (x ∈ (cutN xs).1 ∨ x ∈ (cutN xs).2.1) → x ∈ xs := by
  rcases cut_cases xs with h1 | ⟨a, r, h1, h2, h3⟩
  · rw [h1] at h; cases h
  · rw [h3, h1]
    refine ⟨by simp only [List.length_append, List.length_cons]; omega, by simp only [List.length_append, List.length_cons]; omega, fun x hx => ?_⟩
    simp only [List.mem_append, List.mem_cons]
    rcases hx with h | h
    · exact .inl h
    · exact .inr (.inr h)
theorem cut_le (xs : List Int) : (cutN xs).1.length ≤ xs.length ∧ (cutN xs).2.1.length ≤ xs.length ∧ ∀ x, (x ∈ (cutN xs).1 ∨ x ∈ (cutN xs).2.1) → x ∈ xs := by
  cases h : (cutN xs).2.2 with
  | true => have := cut_lt h; exact ⟨by omega, by omega, this.2.2⟩
  | false =>
    have : cutN xs = (xs, [], false) := by
      refine cut_miss fun hm => ?_
      unfold cutN at h
      rw [if_pos (by simpa using hm)] at h
      cases h
    rw [this]
    exact ⟨Nat.le_refl _, Nat.zero_le _, fun x hx => by rcases hx with h | h; exact h; cases h⟩
theorem getF_more : ∀ (n : Nat) (r : List Int), r.length ≤ n → getF n r = getF r.length r := by
  have key : ∀ (n m : Nat) (r : List Int), r.length ≤ n → r.length ≤ m → getF n r = getF m r := by
    intro n
    induction n with
    | zero => intro m r h _; have : r = [] := List.eq_nil_of_length_eq_zero (by omega); subst this; simp [getF]
    | succ n ih =>
      intro m r h1 h2
      cases r with
      | nil => simp [getF]
      | cons x r =>
        cases m with
        | zero => simp at h2
        | succ m =>
          unfold getF
          by_cases hc : ((cutN (x :: r)).2.2 && lnOk (cutN (x :: r)).1) = true
          · rw [if_pos hc, if_pos hc]
            simp only [Bool.and_eq_true] at hc
            have hl := (cut_lt hc.1).1
            simp only [List.length_cons] at h1 h2 hl
            rw [ih m _ (by omega) (by omega)]
          · rw [if_neg hc, if_neg hc]
  exact fun n r h => key n _ r h (Nat.le_refl _)
def getL (b : List Int) : Option (List (Int × List Int)) := getF b.length b
theorem getL_nil : getL [] = some [] := rfl
theorem getL_no {r : List Int} (h0 : 0 < r.length) (h : ((cutN r).2.2 && lnOk (cutN r).1) = false) : getL r = none := by
  cases r with
  | nil => simp at h0
  | cons x r => unfold getL; simp only [List.length_cons]; unfold getF; rw [if_neg (by rw [h]; simp)]
theorem getL_yes {r : List Int} (h0 : 0 < r.length) (h : ((cutN r).2.2 && lnOk (cutN r).1) = true) : getL r = (getL (cutN r).2.1).map ((lnK (cutN r).1, lnL (cutN r).1) :: ·) := by
  cases r with
  | nil => simp at h0
  | cons x r =>
    unfold getL; simp only [List.length_cons]; conv => lhs; unfold getF
    rw [if_pos h]
    simp only [Bool.and_eq_true] at h
    have hl := (cut_lt h.1).1
    simp only [List.length_cons] at hl
    rw [getF_more r.length _ (by omega)]
def getV24 (b : List Int) : List (Int × List Int) × Int := match getL b with
  | none => ([], 11)
  | some l => if 65536 < l.length then ([], 2) else (l, 0)
def getI (b : List Int) (out : List (Int × List Int)) (r : List Int) : Prop := getL b = (getL r).map (out ++ ·)
theorem getI_0 (b : List Int) : getI b [] b := by unfold getI; cases getL b <;> rfl
theorem getI_next {b r : List Int} {out : List (Int × List Int)} (hI : getI b out r) (h0 : 0 < r.length) (h : ((cutN r).2.2 && lnOk (cutN r).1) = true) : getI b (out ++ [(lnK (cutN r).1, lnL (cutN r).1)]) (cutN r).2.1 := by
  unfold getI at hI ⊢
  rw [hI, getL_yes h0 h]
  cases getL (cutN r).2.1 <;> simp
theorem getI_no {b r : List Int} {out : List (Int × List Int)} (hI : getI b out r) (h0 : 0 < r.length) (h : ((cutN r).2.2 && lnOk (cutN r).1) = false) : getV24 b = ([], 11) := by
  unfold getI at hI
  rw [getL_no h0 h] at hI
  unfold getV24; rw [hI]; rfl
theorem getI_end {b r : List Int} {out : List (Int × List Int)} (hI : getI b out r) (h0 : r.length = 0) : getV24 b = if 65536 < out.length then ([], 2) else (out, 0) := by
  have : r = [] := List.eq_nil_of_length_eq_zero h0
  subst this
  unfold getI at hI
  rw [getL_nil, Option.map_some, List.append_nil] at hI
  unfold getV24; rw [hI]
abbrev wsS (s : ByteArray) : List ByteArray := (splitI 32 (bytesI s)).map strOfNums
abbrev mdS (s : ByteArray) : List ByteArray := ((wsS s).take (((wsS s).length : Int) - 1).toNat).drop 1
theorem ws_facts (s : ByteArray) : 1 ≤ (wsS s).length ∧ (wsS s).length ≤ s.size + 1 ∧ ∀ x ∈ wsS s, x.size ≤ s.size := by
  obtain ⟨h1, h2⟩ := splitI_len 32 (bytesI s)
  rw [bytesI_len] at h1
  obtain ⟨w, ws, e⟩ := splitI_ne 32 (bytesI s)
  refine ⟨by rw [wsS, e]; simp, by rw [wsS, List.length_map]; exact h1, fun x hx => ?_⟩
  obtain ⟨v, hv, rfl⟩ := List.mem_map.1 hx
  have := h2 v hv
  rw [bytesI_len] at this
  rw [str_size]; exact this
theorem ws_at (s : ByteArray) (i : Nat) : (wsS s).getD i ByteArray.empty = strOfNums (wd (splitI 32 (bytesI s)) i) := by
  unfold wd wsS
  rw [List.getD_eq_getElem?_getD, List.getElem?_map, List.getD_eq_getElem?_getD]
  cases (splitI 32 (bytesI s))[i]? <;> rfl
theorem wd_bytes (s : ByteArray) (i : Nat) : isBytes (wd (splitI 32 (bytesI s)) i) := by
  unfold wd
  rw [List.getD_eq_getElem?_getD]
  cases h : (splitI 32 (bytesI s))[i]? with
  | none => intro x hx; cases hx
  | some w => exact fun x hx => bytes_is s x (splitI_mem (List.mem_of_getElem? h) x hx)
theorem lnK_is (s : ByteArray) : Lib.index (⟨#[32, 111, 108, 100]⟩ : ByteArray).data.toList ((wsS s).getD 0 ByteArray.empty).data.toList = lnK (bytesI s) := by
  unfold lnK kinI; rw [ws_at]
theorem mid_eq (s : ByteArray) : mdS s = (midW (splitI 32 (bytesI s))).map strOfNums := by
  unfold midW
  rw [List.map_drop, List.map_take]
  show ((wsS s).take _).drop 1 = ((wsS s).take _).drop 1
  have h := (ws_facts s).1
  have e : (((wsS s).length : Int) - 1).toNat = (wsS s).length - 1 := by omega
  rw [e, show (wsS s).length = (splitI 32 (bytesI s)).length from List.length_map ..]
theorem mid_len (s : ByteArray) : (mdS s).length = (midW (splitI 32 (bytesI s))).length := by rw [mid_eq, List.length_map]
theorem mid_at (s : ByteArray) (i : Nat) : (mdS s).getD i ByteArray.empty = strOfNums ((midW (splitI 32 (bytesI s))).getD i []) := by
  rw [mid_eq, List.getD_eq_getElem?_getD, List.getElem?_map, List.getD_eq_getElem?_getD]
  cases (midW (splitI 32 (bytesI s)))[i]? <;> rfl
theorem mid_bytes {s : ByteArray} {i : Nat} : isBytes ((midW (splitI 32 (bytesI s))).getD i []) := by
  rw [List.getD_eq_getElem?_getD]
  cases h : (midW (splitI 32 (bytesI s)))[i]? with
  | none => intro x hx; cases hx
  | some w => exact fun x hx => bytes_is s x (splitI_mem (List.mem_of_mem_take (List.mem_of_mem_drop (List.mem_of_getElem? h))) x hx)
theorem mid_size {s : ByteArray} {i : Nat} (hi : i < (mdS s).length) : ((mdS s).getD i ByteArray.empty).size ≤ s.size := by
  refine (ws_facts s).2.2 _ ?_
  have : (mdS s).getD i ByteArray.empty ∈ mdS s := getD_memS hi
  exact List.mem_of_mem_take (List.mem_of_mem_drop this)
theorem mid_lenS (s : ByteArray) : (mdS s).length ≤ s.size := by
  have := (ws_facts s).2.1
  unfold mdS
  rw [List.length_drop, List.length_take]; omega
theorem head_is (s : ByteArray) : (((((((wsS s).getD 0 ByteArray.empty).size : Int) != 1) || (decide ((Lib.index (⟨#[32, 111, 108, 100]⟩ : ByteArray).data.toList ((wsS s).getD 0 ByteArray.empty).data.toList) < 1))) || (decide (((wsS s).length : Int) - 1 < 1))) || (!(((wsS s).getD (((wsS s).length : Int) - 1).toNat ByteArray.empty).toList == (⟨#[48]⟩ : ByteArray).toList))) = !headW (splitI 32 (bytesI s)) := by
  rw [lnK_is, ws_at, ws_at]
  have e48 : (⟨#[48]⟩ : ByteArray) = strOfNums [48] := by decide
  have hb : isBytes [48] := fun x hx => by rw [List.mem_singleton] at hx; omega
  have h := (ws_facts s).1
  have el : (wsS s).length = (splitI 32 (bytesI s)).length := List.length_map ..
  have e1 : (((wsS s).length : Int) - 1).toNat = (splitI 32 (bytesI s)).length - 1 := by omega
  rw [e48, str_inj (wd_bytes s _) hb, e1, str_size, el]
  unfold headW lnK
  have k1 : (((wd (splitI 32 (bytesI s)) 0).length : Int) != 1) = !decide ((wd (splitI 32 (bytesI s)) 0).length = 1) := by
    rw [Bool.eq_iff_iff, bne_iff_ne, Bool.not_eq_true', decide_eq_false_iff_not]; omega
  have k2 : decide (kinI (wd (splitI 32 (bytesI s)) 0) < 1) = !decide (1 ≤ kinI (wd (splitI 32 (bytesI s)) 0)) := by
    rw [Bool.eq_iff_iff, Bool.not_eq_true', decide_eq_false_iff_not, decide_eq_true_eq]; omega
  have k3 : decide (((splitI 32 (bytesI s)).length : Int) - 1 < 1) = !decide (2 ≤ (splitI 32 (bytesI s)).length) := by
    rw [Bool.eq_iff_iff, Bool.not_eq_true', decide_eq_false_iff_not, decide_eq_true_eq]; omega
  rw [k1, k2, k3]
  simp only [Bool.not_and, Bool.or_assoc]
theorem headS_no {s : ByteArray} {b : Bool} (hb : b = !headW (splitI 32 (bytesI s))) (h : b = true) : headW (splitI 32 (bytesI s)) = false := by
  rw [h] at hb; simpa using hb.symm
theorem headS_yes {s : ByteArray} {b : Bool} (hb : b = !headW (splitI 32 (bytesI s))) (h : b = false) : headW (splitI 32 (bytesI s)) = true := by
  rw [h] at hb; simpa using hb.symm
theorem lit_no {s : ByteArray} {i : Nat} (h : badLit ((mdS s).getD i ByteArray.empty) = true) : litW ((midW (splitI 32 (bytesI s))).getD i []) = false := by
  rw [mid_at, (bad_lit _ mid_bytes).1] at h; simpa using h
theorem lit_yes {s : ByteArray} {i : Nat} (h : badLit ((mdS s).getD i ByteArray.empty) = false) : litW ((midW (splitI 32 (bytesI s))).getD i []) = true ∧ (atoiV ((mdS s).getD i ByteArray.empty).data.toList).1 = numN ((midW (splitI 32 (bytesI s))).getD i []) := by
  rw [mid_at] at h ⊢
  have e := bad_lit ((midW (splitI 32 (bytesI s))).getD i []) mid_bytes
  rw [e.1] at h
  have h' : litW ((midW (splitI 32 (bytesI s))).getD i []) = true := by simpa using h
  exact ⟨h', e.2 h'⟩
theorem mid_next {s : ByteArray} {i : Nat} (hi : i < (mdS s).length) (h : (atoiV ((mdS s).getD i ByteArray.empty).data.toList).1 = numN ((midW (splitI 32 (bytesI s))).getD i [])) :
    ((midW (splitI 32 (bytesI s))).take i).map numN ++ [(atoiV ((mdS s).getD i ByteArray.empty).data.toList).1] = ((midW (splitI 32 (bytesI s))).take (i + 1)).map numN := by
  rw [h]
  rw [mid_len] at hi
  rw [List.take_add_one, List.map_append]
  simp [List.getD, List.getElem?_eq_getElem hi]
theorem ln_head {s : ByteArray} (h : headW (splitI 32 (bytesI s)) = false) : [] = lnL (bytesI s) := by unfold lnL; rw [h]; rfl
theorem lnOk_head {s : ByteArray} (h : headW (splitI 32 (bytesI s)) = false) : false = lnOk (bytesI s) := by unfold lnOk; rw [h]; rfl
theorem tw_stop {l : List (List Int)} {i : Nat} (hi : i < l.length) (hok : ∀ j, j < i → litW (l.getD j []) = true) (hq : litW (l.getD i []) = false) : l.takeWhile litW = l.take i ∧ l.all litW = false := by
  have hg : ∀ j, (h : j < l.length) → l.getD j [] = l[j] := fun j h => by simp [List.getD, List.getElem?_eq_getElem h]
  have e : l = l.take i ++ l[i] :: l.drop (i + 1) := by rw [← List.drop_eq_getElem_cons hi, List.take_append_drop]
  have h1 : ∀ x ∈ l.take i, litW x = true := fun x hx => by
    obtain ⟨j, hj, rfl⟩ := List.getElem_of_mem hx
    rw [List.length_take] at hj
    have := hok j (by omega)
    rw [hg j (by omega)] at this
    rw [List.getElem_take]; exact this
  rw [hg i hi] at hq
  refine ⟨?_, ?_⟩
  · conv => lhs; rw [e, List.takeWhile_append_of_pos h1, List.takeWhile_cons]
    rw [hq]; simp
  · rw [List.all_eq_false]
    exact ⟨l[i], List.getElem_mem _, by rw [hq]; simp⟩
theorem tw_all {l : List (List Int)} {i : Nat} (hi : i = l.length) (hok : ∀ j, j < i → litW (l.getD j []) = true) : l.takeWhile litW = l.take i ∧ l.all litW = true := by
  have h1 : ∀ x ∈ l, litW x = true := fun x hx => by
    obtain ⟨j, hj, rfl⟩ := List.getElem_of_mem hx
    have := hok j (by omega)
    rwa [show l.getD j [] = l[j] by simp [List.getD, List.getElem?_eq_getElem hj]] at this
  refine ⟨?_, List.all_eq_true.2 h1⟩
  rw [hi, List.take_length]
  have := List.takeWhile_append_of_pos (l₂ := []) h1
  simpa using this
theorem ln_stop {s : ByteArray} {i : Nat} (hH : headW (splitI 32 (bytesI s)) = true) (hi : i < (mdS s).length) (hok : ∀ j, j < i → litW ((midW (splitI 32 (bytesI s))).getD j []) = true) (hq : litW ((midW (splitI 32 (bytesI s))).getD i []) = false) :
    ((midW (splitI 32 (bytesI s))).take i).map numN = lnL (bytesI s) := by
  unfold lnL; rw [if_pos hH, (tw_stop (by rw [← mid_len]; exact hi) hok hq).1]
theorem lnOk_stop {s : ByteArray} {i : Nat} (hi : i < (mdS s).length) (hok : ∀ j, j < i → litW ((midW (splitI 32 (bytesI s))).getD j []) = true) (hq : litW ((midW (splitI 32 (bytesI s))).getD i []) = false) : false = lnOk (bytesI s) := by
  unfold lnOk; rw [(tw_stop (by rw [← mid_len]; exact hi) hok hq).2, Bool.and_false]
theorem ln_all {s : ByteArray} {i : Nat} (hH : headW (splitI 32 (bytesI s)) = true) (hi : i = (mdS s).length) (hok : ∀ j, j < i → litW ((midW (splitI 32 (bytesI s))).getD j []) = true) :
    ((midW (splitI 32 (bytesI s))).take i).map numN = lnL (bytesI s) := by
  unfold lnL; rw [if_pos hH, (tw_all (by rw [← mid_len]; exact hi) hok).1]
theorem lnOk_all {s : ByteArray} {i : Nat} (hH : headW (splitI 32 (bytesI s)) = true) (hi : i = (mdS s).length) (hok : ∀ j, j < i → litW ((midW (splitI 32 (bytesI s))).getD j []) = true) : true = lnOk (bytesI s) := by
  unfold lnOk; rw [hH, (tw_all (by rw [← mid_len]; exact hi) hok).2]; rfl
theorem ws_in {a b : Bool} {n : Int} (h : (!((a || b) || decide (n - 1 < 1))) = true) : 0 ≤ n - 1 ∧ n - 1 < n := by
  simp only [Bool.not_eq_true', Bool.or_eq_false_iff, decide_eq_false_iff_not] at h
  omega
theorem fit_may {a : Bool} {x : Int} (h : (!(a || !mayP x 65536)) = true) : Fit x := by
  simp only [Bool.not_eq_true', Bool.or_eq_false_iff, Bool.not_eq_false'] at h
  have := mayP_iff.1 h.2
  exact ⟨by omega, by omega⟩
theorem headS_two {s : ByteArray} (h : headW (splitI 32 (bytesI s)) = true) : 2 ≤ (wsS s).length := by
  unfold headW at h
  simp only [Bool.and_eq_true, decide_eq_true_eq] at h
  rw [show (wsS s).length = (splitI 32 (bytesI s)).length from List.length_map ..]
  exact h.2.2.1
theorem md_take {s : ByteArray} {i : Nat} (hi : i ≤ (mdS s).length) : (((midW (splitI 32 (bytesI s))).take i).map numN).length = i := by
  rw [mid_len] at hi
  rw [List.length_map, List.length_take]; omega
theorem cut_bytes {xs : List Int} (h : isBytes xs) : isBytes (cutN xs).1 ∧ isBytes (cutN xs).2.1 := by
  obtain ⟨_, _, h3⟩ := cut_le xs
  exact ⟨fun x hx => h x (h3 x (.inl hx)), fun x hx => h x (h3 x (.inr hx))⟩
theorem cg_no {a b : Bool} (h : (!a || !b) = true) : (a && b) = false := by cases a <;> cases b <;> simp_all
theorem cg_yes {a b : Bool} (h : (!a || !b) = false) : (a && b) = true := by cases a <;> cases b <;> simp_all
theorem cg_1 {a b : Bool} (h : (a && b) = true) : a = true := by cases a <;> simp_all
end Go.Proofs.YtbpbndlgfiammaaGreatDoor.Cn
