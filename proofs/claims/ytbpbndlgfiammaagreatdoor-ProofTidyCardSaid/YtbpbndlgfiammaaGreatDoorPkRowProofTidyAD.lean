/- Lemmas and contracts for the row. -/
import Derived.Test.YtbpbndlgfiammaaGreatDoorPkRowProofTidyT
import Derived.Test.YtbpbndlgfiammaaGreatDoorPkRowProofTidyAC
import Derived.Test.YtbpbndlgfiammaaGreatDoorPkRowProofTidyZ
import Derived.Test.YtbpbndlgfiammaaGreatDoorPkRowProofTidyK
set_option linter.unusedVariables false
set_option linter.unusedSimpArgs false
set_option linter.unnecessarySimpa false
namespace Go.Proofs.YtbpbndlgfiammaaGreatDoor.En
open Go Go.RowKit
def tyTidy : List (Nat × TD) := [(3, ⟨1, false, [.int .i64 0], [], none, 8, false, 1, 1⟩),
  (4, ⟨1, false, [.bool false], [], none, 1, true, 0, 2⟩),
  (22, ⟨1, false, [.slice none 0 0], [], some 23, 24, false, 0, 0⟩),
  (23, ⟨1, false, [.slice none 0 0], [], some 3, 24, false, 0, 3⟩),
  (28, ⟨2, true, [.int .i64 0, .slice none 0 0], [(0, 3), (1, 22)], none, 32, false, 0, 6⟩),
  (31, ⟨1, false, [.int .i64 0], [], none, 8, false, 1, 1⟩),
  (64, ⟨1, false, [.map none], [], none, 8, false, 10, 4⟩)]
theorem tyTidy_ok : AllTy Tryz.prog tyTidy := ⟨⟨by kernel_rfl, by kernel_rfl, by kernel_rfl⟩, ⟨by kernel_rfl, by kernel_rfl, by kernel_rfl⟩, ⟨by kernel_rfl, by kernel_rfl, by kernel_rfl⟩, ⟨by kernel_rfl, by kernel_rfl, by kernel_rfl⟩, ⟨by kernel_rfl, by kernel_rfl, by kernel_rfl⟩, ⟨by kernel_rfl, by kernel_rfl, by kernel_rfl⟩, ⟨by kernel_rfl, by kernel_rfl, by kernel_rfl⟩, trivial⟩
def cx_tUnit : Cx := ⟨tyTidy, [], true⟩
theorem cx_tUnit_ok : CxOk Tryz.prog cx_tUnit := cx_ok tyTidy_ok trivial
def tUnit_σ : CtF
  | [.im (.ls (.ints l)), .row 0], [.mset ks] => some (l.length ≤ maxLen ∧ ∀ x ∈ l, -65536 ≤ x ∧ x ≤ 65536, .tup [.int ((Cn.unitF (Cn.hasK ks) 0 l).1), .bool ((Cn.unitF (Cn.hasK ks) 0 l).2)], [some (.mset ks)])
  | _, _ => none
theorem tUnit_sound : Sound Tryz.prog 101 tUnit_σ := by
 refine Sw (cx := cx_tUnit) Tryz.f101 Tryz.func101 ?_
 intro wW wO wβ G0 args os p r outs hσ hp
 have hcx := cx_tUnit_ok
 unfold tUnit_σ at hσ
 split at hσ
 ·
  rename_i l ks
  cases hσ
  refine ⟨by kernel_rfl, ?_⟩
  obtain ⟨hm1, hm2⟩ := hp
  unfold maxLen at hm1
  have hb := fun i (h : i < l.length) => hm2 _ (Cn.getD_memL (d := (0 : Int)) h)
  refine Sz hcx [] [4] [] [] (Zs (Sz hcx [] [8, 9, 10] [0] [] (Zb (Lp (X := Nat × Int) (fun x0 => x0.1 ≤ l.length ∧ Cn.unitF (Cn.hasK ks) 0 l = Cn.unitF (Cn.hasK ks) x0.2 (l.drop x0.1)) (fun x0 => ([(1, .row 0), (4, .int x0.2), (8, .ints l), (9, .int (l.length : Int)), (10, .int (x0.1 : Int))], [(0, .mset ks)])) (fun x0 => l.length - x0.1) (0, (0 : Int)) ?_ (Ex 4 (congrArg AV.int (show 0 = (0 : Int) from (by first | rfl | omega | (simp; done)))) (Ex 10 (congrArg AV.int (show 0 = (0 : Int) from (by first | rfl | omega | (simp; done)))) Eb)) Hb fun ⟨i, o⟩ hI => ?_))))
  ·
   try dsimp only
   exact ⟨Nat.zero_le _, rfl⟩
  ·
   try dsimp only at hI
   obtain ⟨hk, hu⟩ := hI
   have hbi := hb i
   refine Sz hcx [] [11] [] [] (Zs (Zj (p := ((i : Int) < (l.length : Int))) (fun h0 => ?_) fun h0 => ?_))
   ·
    refine Zk (Ft (Zs (Zb (Sq hcx [] [7] [11] [] [((0 : Int) ≤ (i : Int) ∧ (i : Int) < (l.length : Int))] ?_ (Zb (Sz hcx [] [15] [] [] (Zi (b := ks.contains (l.getD i 0)) (fun h1 => ?_) fun h1 => ?_)))))))
    ·
     refine ap ?_ az
     first | omega | exact id | exact vcNot | exact vcG | exact vcH | (intro _; omega) | exact (fun _ h => h) | (intro h; simp at h; omega) | (simp only [List.length_cons, List.length_nil, List.length_append, List.length_map, List.length_set, List.length_replicate]; omega) | (intro h; simp [h]; done) | (have h8 := hbi (by omega); constructor <;> omega) | (have h8 := hbi (by omega); intro _; constructor <;> omega) | done
    ·
     have hr := Cn.un_true (by omega) hu h1
     exact Sz hcx [] [4, 5] [15, 7, 1, 8, 9, 10] [] (Zr (Fk (Fk (Fr (Fr (Fk (Fr (Rv hcx (congrArg AV.tup (consE (congrArg AV.int (show 0 = (Cn.unitF (Cn.hasK ks) 0 l).1 from (by (rw [hr]; done)))) (consE (congrArg AV.bool (show false = (Cn.unitF (Cn.hasK ks) 0 l).2 from (by (rw [hr]; done)))) rfl))) [true] rfl))))))))
    ·
     have ht : (Cn.hasK ks) (l.getD i 0) = false := h1
     refine Sq hcx [] [19] [15] [] [Fit (-(l.getD i 0)), ((!(ks.contains (-(l.getD i 0)))) = true → ((!(ks.contains (-(l.getD i 0)))) = true)), ((!(ks.contains (-(l.getD i 0)))) = true → ((!(ks.contains (-(l.getD i 0)))) = true)), ((ks.contains (-(l.getD i 0))) = false → (!(ks.contains (-(l.getD i 0)))) = true)] ?_ (Zi (b := (ks.contains (-(l.getD i 0))) || ((l.getD i 0) == o)) (fun h2 => ?_) fun h2 => ?_)
     ·
      refine ap ?_ (ap ?_ (ap ?_ (ap (by exact vcNot) az))) <;>
       first | omega | exact id | exact vcNot | exact vcG | exact vcH | (intro _; omega) | exact (fun _ h => h) | (intro h; simp at h; omega) | (simp only [List.length_cons, List.length_nil, List.length_append, List.length_map, List.length_set, List.length_replicate]; omega) | (intro h; simp [h]; done) | (have h8 := hbi (by omega); constructor <;> omega) | (have h8 := hbi (by omega); intro _; constructor <;> omega) | done
     ·
      have h2 : ((Cn.hasK ks) (-(l.getD i 0)) || (l.getD i 0) == o) = true := h2
      refine Zk (Fb (Fb (Ft (Tq hcx [] [10] [19, 7] [] [Fit ((i : Int) + 1)] ?_ (Lr (i + 1, (Cn.unN (Cn.hasK ks) o (l.getD i 0))) ?_ ?_ (Ex 4 (congrArg AV.int (show o = (Cn.unN (Cn.hasK ks) o (l.getD i 0)) from (by first | exact (Cn.unN_1 h2).symm | exact (Cn.unN_0 h2).symm))) (Ex 10 (congrArg AV.int (show ((i : Int) + 1) = ((i + 1) : Int) from (by first | rfl | omega | (simp; done)))) Eb)) Hb)))))
      ·
       refine ap ?_ az
       first | omega | exact id | exact vcNot | exact vcG | exact vcH | (intro _; omega) | exact (fun _ h => h) | (intro h; simp at h; omega) | (simp only [List.length_cons, List.length_nil, List.length_append, List.length_map, List.length_set, List.length_replicate]; omega) | (intro h; simp [h]; done) | (have h8 := hbi (by omega); constructor <;> omega) | (have h8 := hbi (by omega); intro _; constructor <;> omega) | done
      ·
       try dsimp only
       first | (rw [Cn.unN_1 h2]; exact ⟨by omega, Cn.un_skip (by omega) hu ht h2⟩) | (rw [Cn.unN_0 h2]; exact ⟨by omega, Cn.un_set (by omega) hu ht h2 h0⟩)
      ·
       show l.length - (i + 1) < l.length - i
       omega
     ·
      have h2 : ((Cn.hasK ks) (-(l.getD i 0)) || (l.getD i 0) == o) = false := h2
      refine Sz hcx [] [29] [19, 4] [] (Zx (a := o) (b := 0) (fun h3 => ?_) fun h3 => ?_)
      ·
       have hr := Cn.un_two (by omega) hu ht h2 h3
       exact Sz hcx [] [4, 5] [29, 7, 1, 8, 9, 10] [] (Zr (Fk (Fk (Fr (Fr (Fk (Fr (Rv hcx (congrArg AV.tup (consE (congrArg AV.int (show 0 = (Cn.unitF (Cn.hasK ks) 0 l).1 from (by (rw [hr]; done)))) (consE (congrArg AV.bool (show false = (Cn.unitF (Cn.hasK ks) 0 l).2 from (by (rw [hr]; done)))) rfl))) [true] rfl))))))))
      ·
       have h0 := h3
       refine Tz hcx [] [4] [29, 7] [] (Fb (Fb (Ft (Tq hcx [] [10] [] [] [Fit ((i : Int) + 1)] ?_ (Lr (i + 1, (Cn.unN (Cn.hasK ks) o (l.getD i 0))) ?_ ?_ (Ex 4 (congrArg AV.int (show (l.getD i 0) = (Cn.unN (Cn.hasK ks) o (l.getD i 0)) from (by first | exact (Cn.unN_1 h2).symm | exact (Cn.unN_0 h2).symm))) (Ex 10 (congrArg AV.int (show ((i : Int) + 1) = ((i + 1) : Int) from (by first | rfl | omega | (simp; done)))) Eb)) Hb)))))
       ·
        refine ap ?_ az
        first | omega | exact id | exact vcNot | exact vcG | exact vcH | (intro _; omega) | exact (fun _ h => h) | (intro h; simp at h; omega) | (simp only [List.length_cons, List.length_nil, List.length_append, List.length_map, List.length_set, List.length_replicate]; omega) | (intro h; simp [h]; done) | (have h8 := hbi (by omega); constructor <;> omega) | (have h8 := hbi (by omega); intro _; constructor <;> omega) | done
       ·
        try dsimp only
        first | (rw [Cn.unN_1 h2]; exact ⟨by omega, Cn.un_skip (by omega) hu ht h2⟩) | (rw [Cn.unN_0 h2]; exact ⟨by omega, Cn.un_set (by omega) hu ht h2 h0⟩)
       ·
        show l.length - (i + 1) < l.length - i
        omega
   ·
    have h11 := h0
    have hr := Cn.un_end (by omega) hu
    exact Ze (Fe (Fe (Fs (Ft (Sz hcx [] [4, 5] [11, 1, 8, 9, 10] [] (Zr (Rv hcx (congrArg AV.tup (consE (congrArg AV.int (show o = (Cn.unitF (Cn.hasK ks) 0 l).1 from (by (rw [hr]; done)))) (consE (congrArg AV.bool (show (o == 0) = (Cn.unitF (Cn.hasK ks) 0 l).2 from (by (rw [hr]; done)))) rfl))) [true] rfl)))))))
 ·
  cases hσ
def cx_tCl : Cx := ⟨tyTidy, [], true⟩
theorem cx_tCl_ok : CxOk Tryz.prog cx_tCl := cx_ok tyTidy_ok trivial
def tCl_σ : CtF
  | [.im (.ls (.intss c)), .im (.val (.int .i64 x))], [] => some (True, .clo 125 [.pto [.ls (.intss c)], .pto [.int x]], [])
  | _, _ => none
theorem tCl_sound : Sound Tryz.prog 100 tCl_σ := by
 refine Sw (cx := cx_tCl) Tryz.f100 Tryz.func100 ?_
 intro wW wO wβ G0 args os p r outs hσ hp
 have hcx := cx_tCl_ok
 unfold tCl_σ at hσ
 split at hσ
 ·
  rename_i c x
  cases hσ
  refine ⟨by kernel_rfl, ?_⟩
  exact Sz hcx [(1000, .frz), (1001, .frz)] [2, 3] [0, 1] [] (Sz hcx [] [4] [2, 3] [] (Zr (Ru hcx [])))
 ·
  cases hσ
def cx_tComesA : Cx := ⟨tyTidy, [(101, (coeF [.ld (.ints []), .id] tUnit_σ)), (100, (coeF [.ld (.intss []), .id] tCl_σ))], true⟩
theorem cx_tComesA_ok : CxOk Tryz.prog cx_tComesA := cx_ok tyTidy_ok ⟨(tUnit_sound.coe [.ld (.ints []), .id] rfl), (tCl_sound.coe [.ld (.intss []), .id] rfl), trivial⟩
def tComesA_σ : CtF
  | [.im (.ls (.intss c)), .im (.val (.int .i64 but)), .row 0], [.row 3 (.ints left)] => some (c.length ≤ 100000 ∧ (∀ l ∈ c, l.length ≤ maxLen) ∧ (∀ l ∈ c, ∀ x ∈ l, x ≠ 0 ∧ -65536 ≤ x ∧ x ≤ 65536) ∧ left.length ≤ maxLen ∧ (∀ x ∈ left, -65536 ≤ x ∧ x ≤ 65536) ∧ Cn.comesV c but left ≠ none, .tup [.row 1, .bool true], [some (.row 3 (.ints left)), some (.mset (Cn.isN (Cn.comesV c but left)))])
  | _, _ => none
theorem tComesA_sound : Sound Tryz.prog 67 tComesA_σ := by
 refine Sw (cx := cx_tComesA) Tryz.f67 Tryz.func67 ?_
 intro wW wO wβ G0 args os p r outs hσ hp
 have hcx := cx_tComesA_ok
 unfold tComesA_σ at hσ
 split at hσ
 ·
  rename_i c but left
  cases hσ
  refine ⟨by kernel_rfl, ?_⟩
  obtain ⟨hm1, hm2, hm3, hm4, hm5, hcv⟩ := hp
  have hz := fun l hl x hx => (hm3 l hl x hx).1
  have hm6 := hm4
  unfold maxLen at hm6
  have hdl := Cn.butL_le c but
  have hd2 : ∀ j, j < (Cn.butL c but).length → ((Cn.butL c but).getD j []).length ≤ maxLen ∧ ∀ x ∈ (Cn.butL c but).getD j [], -65536 ≤ x ∧ x ≤ 65536 := fun j hj => (by have h8 := Cn.butL_mem (Cn.getD_memL (d := ([] : List Int)) hj); exact ⟨hm2 _ h8, fun x hx => (hm3 _ h8 x hx).2⟩)
  refine Sz hcx [(1000, .to 606), (1001, .to 607)] [6, 7] [] [] (Sz hcx [(1000, .to 215), (1001, .to 608)] [8] [] [] (Zs (Sz hcx [] [16, 17, 18] [2] [] (Zb (Zn [(0, .to 0), (606, .to 606), (607, .to 607), (608, .to 608), (215, .to 700)] [0, 1, 6, 7, 8, 16, 17, 18] (Lp (X := Nat) (fun x0 => x0 ≤ left.length) (fun x0 => ([(0, .intss c), (1, .int but), (6, .loc 606 0), (7, .loc 607 0), (8, .loc 608 0), (16, .row 0), (17, .int (left.length : Int)), (18, .int (x0 : Int))], [(0, .row 3 (.ints left)), (606, .box [.im (.val (.map none))]), (607, .box [.bool false]), (608, .box [.row 700]), (700, .mset (Cn.iniN (left.take x0)))])) (fun x0 => left.length - x0) (0) ?_ (Ex 18 (congrArg AV.int (show 0 = (0 : Int) from (by first | rfl | omega | (simp; done)))) Eb) Hb fun i hI => ?_))))))
  ·
   show 0 ≤ left.length
   omega
  ·
   replace hI : i ≤ left.length := hI
   have hbi := fun (h : i < left.length) => hm5 _ (Cn.getD_memL (d := (0 : Int)) h)
   refine Sz hcx [] [19] [] [] (Zs (Zj (p := ((i : Int) < (left.length : Int))) (fun h0 => ?_) fun h0 => ?_))
   ·
    refine Zk (Ft (Zs (Zb (Sq hcx [] [10] [19] [] [((0 : Int) ≤ (i : Int) ∧ (i : Int) < (left.length : Int)), (i < left.length)] ?_ (Tq hcx [(700, .to 700)] [] [10] [] [Fit (-(left.getD i 0)), (true = true)] ?_ (Fb (Ft (Tq hcx [] [18] [] [] [Fit ((i : Int) + 1)] ?_ (Fn [(0, .to 0), (606, .to 606), (607, .to 607), (608, .to 608), (700, .to 700)] [0, 1, 6, 7, 8, 16, 17, 18] (Lr (i + 1) ?_ ?_ (Ex 18 (congrArg AV.int (show ((i : Int) + 1) = ((i + 1) : Int) from (by first | rfl | omega | (simp; done)))) Eb) (Hx 700 (congrArg AObj.mset (show (addK (Cn.iniN (left.take i)) (-(left.getD i 0))) = (Cn.iniN (left.take (i + 1))) from (by exact Cn.iniN_next (by omega)))) Hb)))))))))))
    ·
     refine ap ?_ (ap ?_ az) <;>
      first | omega | exact id | exact vcNot | exact vcG | exact vcH | (intro _; omega) | exact (fun _ h => h) | (intro h; simp at h; omega) | (simp only [List.length_cons, List.length_nil, List.length_append, List.length_map, List.length_set, List.length_replicate]; omega) | (intro h; simp [h]; done) | exact True.intro | (have h8 := hbi (by omega); constructor <;> omega) | exact hdj | (unfold maxLen; omega) | (constructor <;> omega) | done
    ·
     refine ap ?_ (ap ?_ az) <;>
      first | omega | exact id | exact vcNot | exact vcG | exact vcH | (intro _; omega) | exact (fun _ h => h) | (intro h; simp at h; omega) | (simp only [List.length_cons, List.length_nil, List.length_append, List.length_map, List.length_set, List.length_replicate]; omega) | (intro h; simp [h]; done) | exact True.intro | (have h8 := hbi (by omega); constructor <;> omega) | exact hdj | (unfold maxLen; omega) | (constructor <;> omega) | done
    ·
     refine ap ?_ az
     first | omega | exact id | exact vcNot | exact vcG | exact vcH | (intro _; omega) | exact (fun _ h => h) | (intro h; simp at h; omega) | (simp only [List.length_cons, List.length_nil, List.length_append, List.length_map, List.length_set, List.length_replicate]; omega) | (intro h; simp [h]; done) | exact True.intro | (have h8 := hbi (by omega); constructor <;> omega) | exact hdj | (unfold maxLen; omega) | (constructor <;> omega) | done
    ·
     show (i + 1) ≤ left.length
     omega
    ·
     show left.length - (i + 1) < left.length - i
     omega
   ·
    refine Ze (Fe (Fe (Fs (Ft (Zs (Sz hcx [(1000, .to 611)] [11] [19, 16, 17, 18] [] (Zb (Zn [(0, .to 0), (606, .to 606), (607, .to 607), (608, .to 608), (611, .to 611), (700, .to 700)] [0, 1, 6, 7, 8, 11] (LpD (RB.refl rfl) (X := Nat × List Int × Bool) (fun x0 => Cn.CI c but left x0.1 x0.2.1 x0.2.2) (fun x0 => ([(0, .intss c), (1, .int but), (6, .loc 606 0), (7, .loc 607 0), (8, .loc 608 0), (11, .loc 611 0)], [(0, .row 3 (.ints left)), (606, .box [.im (.val (.map none))]), (607, .box [.bool false]), (608, .box [.row 700]), (611, .box [.bool x0.2.2]), (700, .mset x0.2.1)])) (fun x0 => (bif x0.2.2 then x0.1 else 0)) 989 ((Cn.restN (Cn.butL c but) (Cn.iniN left) + 1), (Cn.iniN (left.take i)), true) ?_ Eb Hb (fun x0 => ⟨by kernel_rfl, by kernel_rfl⟩) (Nat.le_of_ble_eq_true rfl) fun Wr Or βr dsr Gr hRB => fun ⟨n, ks, m⟩ hI => ?_)))))))))
    ·
     try dsimp only
     (rw [show i = left.length by omega, List.take_length]; exact Cn.ci_0)
    ·
     replace hI : Cn.CI c but left n ks m := hI
     have hci := hI
     refine Zs (Sz hcx [] [26] [] [] (Zi (b := m) (fun h1 => ?_) fun h1 => ?_))
     ·
      have hmt : m = true := h1
      rw [hmt] at hci
      refine Zk (Ft (Zs (Zb (Sz hcx [(611, .to 611)] [] [26] [] (Sq hcx [] [29] [] [] [(True)] ?_ (Zb ?_))))))
      ·
       refine ap ?_ az
       first | omega | exact id | exact vcNot | exact vcG | exact vcH | (intro _; omega) | exact (fun _ h => h) | (intro h; simp at h; omega) | (simp only [List.length_cons, List.length_nil, List.length_append, List.length_map, List.length_set, List.length_replicate]; omega) | (intro h; simp [h]; done) | exact True.intro | (have h8 := hbi (by omega); constructor <;> omega) | exact hdj | (unfold maxLen; omega) | (constructor <;> omega) | done
      refine tri_ren (ρ := [(0, .to 0), (606, .to 1), (607, .to 2), (608, .to 3), (611, .to 4), (700, .to 700)]) (keys := [29, 0, 1, 6, 7, 8, 11]) (E' := [(29, .clo 125 [.pto [.ls (.intss c)], .pto [.int but]]), (0, .intss c), (1, .int but), (6, .loc 1 0), (7, .loc 2 0), (8, .loc 3 0), (11, .loc 4 0)]) (H' := [(0, .row 3 (.ints left)), (1, .box [.im (.val (.map none))]), (2, .box [.bool false]), (3, .box [.row 700]), (4, .box [.bool false]), (700, .mset ks)]) (by kernel_rfl) ?_
      refine tri_range (X := List Int × Bool) rfl but_seq (caps := [.pto [.ls (.intss c)], .pto [.int but]]) (by kernel_rfl) (N := (Cn.butL c but).length) (el := fun j => [.ints ((Cn.butL c but).getD j [])]) rfl (by kernel_rfl) ?_ 5 970 989 (by kernel_rfl) (fun j x0 => Cn.passF (Cn.butL c but) ks false = Cn.passF ((Cn.butL c but).drop j) x0.1 x0.2) (fun j x0 => [(0, .row 3 (.ints left)), (1, .box [.im (.val (.map none))]), (2, .box [.bool false]), (3, .box [.row 700]), (4, .box [.bool x0.2]), (700, .mset x0.1)]) (fun j x0 => [(29, .clo 125 [.pto [.ls (.intss c)], .pto [.int but]]), (0, .intss c), (1, .int but), (6, .loc 1 0), (7, .loc 2 0), (8, .loc 3 0), (11, .loc 4 0), (12, .ints ((Cn.butL c but).getD j []))]) (fun j x0 => [(0, .row 3 (.ints left)), (1, .box [.im (.val (.map none))]), (2, .box [.bool false]), (3, .box [.row 700]), (4, .box [.bool x0.2]), (700, .mset x0.1)]) (ks, false) ?_ ?_ (fun _ _ => rfl) (fun _ _ _ => by kernel_rfl) (fun _ _ => by kernel_rfl) ?_ ?_ ?_
      ·
       (unfold maxLen; omega)
      ·
       show Cn.passF (Cn.butL c but) ks false = Cn.passF ((Cn.butL c but).drop 0) ks false
       rfl
      ·
       exact Hb
      ·
       intro Wr Or βr Gr l0 r0 j ⟨ks2, m2⟩ hi0 hI0
       replace hI0 : Cn.passF (Cn.butL c but) ks false = Cn.passF ((Cn.butL c but).drop j) ks2 m2 := hI0
       have hps := hI0
       have hdj := hd2 j hi0
       change Tri _ [(30, .ints ((Cn.butL c but).getD j [])), (29, .clo 125 [.pto [.ls (.intss c)], .pto [.int but]]), (0, .intss c), (1, .int but), (6, .loc 1 0), (7, .loc 2 0), (8, .loc 3 0), (11, .loc 4 0)] [(970, .other l0 (.loop r0)), (0, .row 3 (.ints left)), (1, .box [.im (.val (.map none))]), (2, .box [.bool false]), (3, .box [.row 700]), (4, .box [.bool m2]), (700, .mset ks2)] _ _
       refine Zt (Tz hcx [] [12] [30] [] ?_)
       refine fin_assign ?_ ?_
       ·
        exact Eb
       ·
        exact Hb
      ·
       intro Wr Or βr Gr l0 r0 j ⟨ks2, m2⟩ hi0 hI0
       replace hI0 : Cn.passF (Cn.butL c but) ks false = Cn.passF ((Cn.butL c but).drop j) ks2 m2 := hI0
       have hps := hI0
       have hdj := hd2 j hi0
       change Tri _ [(29, .clo 125 [.pto [.ls (.intss c)], .pto [.int but]]), (0, .intss c), (1, .int but), (6, .loc 1 0), (7, .loc 2 0), (8, .loc 3 0), (11, .loc 4 0), (12, .ints ((Cn.butL c but).getD j []))] [(970, .other l0 (.loop r0)), (0, .row 3 (.ints left)), (1, .box [.im (.val (.map none))]), (2, .box [.bool false]), (3, .box [.row 700]), (4, .box [.bool m2]), (700, .mset ks2)] _ _
       refine Zt (Zb (Sq hcx [(700, .to 700)] [13, 14] [29, 0, 1, 12] [] [(((Cn.butL c but).getD j []).length ≤ maxLen ∧ ∀ x ∈ ((Cn.butL c but).getD j []), -65536 ≤ x ∧ x ≤ 65536)] ?_ (Zs (Sz hcx [] [37] [14] [] (Zi (b := (Cn.unitF (Cn.hasK ks2) 0 ((Cn.butL c but).getD j [])).2) (fun h2 => ?_) fun h2 => ?_)))))
       ·
        refine ap ?_ az
        first | omega | exact id | exact vcNot | exact vcG | exact vcH | (intro _; omega) | exact (fun _ h => h) | (intro h; simp at h; omega) | (simp only [List.length_cons, List.length_nil, List.length_append, List.length_map, List.length_set, List.length_replicate]; omega) | (intro h; simp [h]; done) | exact True.intro | (have h8 := hbi (by omega); constructor <;> omega) | exact hdj | (unfold maxLen; omega) | (constructor <;> omega) | done
       ·
        (exact absurd (Cn.ci_bad hci (Cn.ps_bad (by omega) hps h2)) hcv)
       ·
        have hw : (Cn.unitF (Cn.hasK ks2) 0 ((Cn.butL c but).getD j [])).2 = false := h2
        refine Zk (Ft (Sz hcx [] [39] [37, 6, 7] [] (Zx (a := ((Cn.unitF (Cn.hasK ks2) 0 ((Cn.butL c but).getD j [])).1)) (b := 0) (fun h3 => ?_) fun h3 => ?_)))
        ·
         have hu := h3
         refine Tq hcx [(4, .to 4), (700, .to 700)] [] [39, 13, 8, 11] [] [(true = true)] ?_ (Fb (Fn [(970, .to 970), (0, .to 0), (1, .to 1), (2, .to 2), (3, .to 3), (4, .to 4), (700, .to 700)] [] ?_))
         ·
          refine ap ?_ az
          first | omega | exact id | exact vcNot | exact vcG | exact vcH | (intro _; omega) | exact (fun _ h => h) | (intro h; simp at h; omega) | (simp only [List.length_cons, List.length_nil, List.length_append, List.length_map, List.length_set, List.length_replicate]; omega) | (intro h; simp [h]; done) | exact True.intro | (have h8 := hbi (by omega); constructor <;> omega) | exact hdj | (unfold maxLen; omega) | (constructor <;> omega) | done
         refine fin_rnext ((Cn.psK ks2 (Cn.unitF (Cn.hasK ks2) 0 ((Cn.butL c but).getD j [])).1), (Cn.psM m2 (Cn.unitF (Cn.hasK ks2) 0 ((Cn.butL c but).getD j [])).1)) ?_ ?_
         ·
          show Cn.passF (Cn.butL c but) ks false = Cn.passF ((Cn.butL c but).drop (j + 1)) (Cn.psK ks2 (Cn.unitF (Cn.hasK ks2) 0 ((Cn.butL c but).getD j [])).1) (Cn.psM m2 (Cn.unitF (Cn.hasK ks2) 0 ((Cn.butL c but).getD j [])).1)
          exact Cn.ps_next (by omega) hps hw
         ·
          exact Hx 4 (o := .box [.bool true]) (o' := .box [.bool (Cn.psM m2 (Cn.unitF (Cn.hasK ks2) 0 ((Cn.butL c but).getD j [])).1)]) (congrArg AObj.box (consE (congrArg AV.bool (show true = (Cn.psM m2 (Cn.unitF (Cn.hasK ks2) 0 ((Cn.butL c but).getD j [])).1) from (by first | exact (Cn.psM_1 hu).symm | exact (Cn.psM_0 hu).symm))) rfl)) (Hx 700 (congrArg AObj.mset (show (addK ks2 ((Cn.unitF (Cn.hasK ks2) 0 ((Cn.butL c but).getD j [])).1)) = (Cn.psK ks2 (Cn.unitF (Cn.hasK ks2) 0 ((Cn.butL c but).getD j [])).1) from (by first | exact (Cn.psK_1 hu).symm | exact (Cn.psK_0 hu).symm))) Hb)
        ·
         have hu := h3
         refine Zk (Fb (Fn [(970, .to 970), (0, .to 0), (1, .to 1), (2, .to 2), (3, .to 3), (4, .to 4), (700, .to 700)] [] ?_))
         refine fin_rnext ((Cn.psK ks2 (Cn.unitF (Cn.hasK ks2) 0 ((Cn.butL c but).getD j [])).1), (Cn.psM m2 (Cn.unitF (Cn.hasK ks2) 0 ((Cn.butL c but).getD j [])).1)) ?_ ?_
         ·
          show Cn.passF (Cn.butL c but) ks false = Cn.passF ((Cn.butL c but).drop (j + 1)) (Cn.psK ks2 (Cn.unitF (Cn.hasK ks2) 0 ((Cn.butL c but).getD j [])).1) (Cn.psM m2 (Cn.unitF (Cn.hasK ks2) 0 ((Cn.butL c but).getD j [])).1)
          exact Cn.ps_next (by omega) hps hw
         ·
          exact Hx 4 (o := .box [.bool m2]) (o' := .box [.bool (Cn.psM m2 (Cn.unitF (Cn.hasK ks2) 0 ((Cn.butL c but).getD j [])).1)]) (congrArg AObj.box (consE (congrArg AV.bool (show m2 = (Cn.psM m2 (Cn.unitF (Cn.hasK ks2) 0 ((Cn.butL c but).getD j [])).1) from (by first | exact (Cn.psM_1 hu).symm | exact (Cn.psM_0 hu).symm))) rfl)) (Hx 700 (congrArg AObj.mset (show ks2 = (Cn.psK ks2 (Cn.unitF (Cn.hasK ks2) 0 ((Cn.butL c but).getD j [])).1) from (by first | exact (Cn.psK_1 hu).symm | exact (Cn.psK_0 hu).symm))) Hb)
      ·
       intro D0 ⟨ks2, m2⟩ hI0
       replace hI0 : Cn.passF (Cn.butL c but) ks false = Cn.passF ((Cn.butL c but).drop ((Cn.butL c but).length)) ks2 m2 := hI0
       have hpe := Cn.ps_end hI0
       change Fin _ [(29, .clo 125 [.pto [.ls (.intss c)], .pto [.int but]]), (0, .intss c), (1, .int but), (6, .loc 1 0), (7, .loc 2 0), (8, .loc 3 0), (11, .loc 4 0)] [(989, .other D0 dfr), (0, .row 3 (.ints left)), (1, .box [.im (.val (.map none))]), (2, .box [.bool false]), (3, .box [.row 700]), (4, .box [.bool m2]), (700, .mset ks2)] _ _
       refine Zf (Fb (Fb (Ft (Sz hcx [] [42] [29, 11] [4] (Tz hcx [(1000, .to 611)] [11] [42] [] (Fn [(989, .to 989), (0, .to 0), (1, .to 606), (2, .to 607), (3, .to 608), (611, .to 611), (700, .to 700)] [0, 1, 6, 7, 8, 11] (LrD ((n - 1), ks2, m2) ?_ ?_ Eb Hb)))))))
       ·
        show Cn.CI c but left (n - 1) ks2 m2
        exact (Cn.ci_next hz hci hpe).2
       ·
        try dsimp only
        (have h8 := (Cn.ci_next hz hci hpe).1; rw [hmt]; cases m2 <;> simp <;> omega)
     ·
      have hmf : m = false := h1
      have hcs := hci.2 hmf
      exact Ze (Fe (Fe (Fs (Ft (Sz hcx [(606, .to 606), (607, .to 607)] [] [26, 0, 1, 8, 11] [608, 611] (Zr (Fn [(0, .to 0), (700, .to 1), (606, .to 990), (607, .to 991)] [6, 7] (RvB hRB hcx rfl [true, true] (consO rfl (consO (congrArg some (congrArg AObj.mset (show ks = (Cn.isN (Cn.comesV c but left)) from (by (rw [hcs]; rfl))))) rfl))))))))))
 ·
  cases hσ
def cx_tComesB : Cx := ⟨tyTidy, [(101, (coeF [.ld (.ints []), .id] tUnit_σ)), (100, (coeF [.ld (.intss []), .id] tCl_σ))], true⟩
theorem cx_tComesB_ok : CxOk Tryz.prog cx_tComesB := cx_ok tyTidy_ok ⟨(tUnit_sound.coe [.ld (.ints []), .id] rfl), (tCl_sound.coe [.ld (.intss []), .id] rfl), trivial⟩
def tComesB_σ : CtF
  | [.im (.ls (.intss c)), .im (.val (.int .i64 but)), .row 0], [.row 3 (.ints left)] => some (c.length ≤ 100000 ∧ (∀ l ∈ c, l.length ≤ maxLen) ∧ (∀ l ∈ c, ∀ x ∈ l, x ≠ 0 ∧ -65536 ≤ x ∧ x ≤ 65536) ∧ left.length ≤ maxLen ∧ (∀ x ∈ left, -65536 ≤ x ∧ x ≤ 65536) ∧ Cn.comesV c but left = none, .tup [.im (.val (.map none)), .bool false], [some (.row 3 (.ints left))])
  | _, _ => none
theorem tComesB_sound : Sound Tryz.prog 67 tComesB_σ := by
 refine Sw (cx := cx_tComesB) Tryz.f67 Tryz.func67 ?_
 intro wW wO wβ G0 args os p r outs hσ hp
 have hcx := cx_tComesB_ok
 unfold tComesB_σ at hσ
 split at hσ
 ·
  rename_i c but left
  cases hσ
  refine ⟨by kernel_rfl, ?_⟩
  obtain ⟨hm1, hm2, hm3, hm4, hm5, hcv⟩ := hp
  have hz := fun l hl x hx => (hm3 l hl x hx).1
  have hm6 := hm4
  unfold maxLen at hm6
  have hdl := Cn.butL_le c but
  have hd2 : ∀ j, j < (Cn.butL c but).length → ((Cn.butL c but).getD j []).length ≤ maxLen ∧ ∀ x ∈ (Cn.butL c but).getD j [], -65536 ≤ x ∧ x ≤ 65536 := fun j hj => (by have h8 := Cn.butL_mem (Cn.getD_memL (d := ([] : List Int)) hj); exact ⟨hm2 _ h8, fun x hx => (hm3 _ h8 x hx).2⟩)
  refine Sz hcx [(1000, .to 606), (1001, .to 607)] [6, 7] [] [] (Sz hcx [(1000, .to 215), (1001, .to 608)] [8] [] [] (Zs (Sz hcx [] [16, 17, 18] [2] [] (Zb (Zn [(0, .to 0), (606, .to 606), (607, .to 607), (608, .to 608), (215, .to 700)] [0, 1, 6, 7, 8, 16, 17, 18] (Lp (X := Nat) (fun x0 => x0 ≤ left.length) (fun x0 => ([(0, .intss c), (1, .int but), (6, .loc 606 0), (7, .loc 607 0), (8, .loc 608 0), (16, .row 0), (17, .int (left.length : Int)), (18, .int (x0 : Int))], [(0, .row 3 (.ints left)), (606, .box [.im (.val (.map none))]), (607, .box [.bool false]), (608, .box [.row 700]), (700, .mset (Cn.iniN (left.take x0)))])) (fun x0 => left.length - x0) (0) ?_ (Ex 18 (congrArg AV.int (show 0 = (0 : Int) from (by first | rfl | omega | (simp; done)))) Eb) Hb fun i hI => ?_))))))
  ·
   show 0 ≤ left.length
   omega
  ·
   replace hI : i ≤ left.length := hI
   have hbi := fun (h : i < left.length) => hm5 _ (Cn.getD_memL (d := (0 : Int)) h)
   refine Sz hcx [] [19] [] [] (Zs (Zj (p := ((i : Int) < (left.length : Int))) (fun h0 => ?_) fun h0 => ?_))
   ·
    refine Zk (Ft (Zs (Zb (Sq hcx [] [10] [19] [] [((0 : Int) ≤ (i : Int) ∧ (i : Int) < (left.length : Int)), (i < left.length)] ?_ (Tq hcx [(700, .to 700)] [] [10] [] [Fit (-(left.getD i 0)), (true = true)] ?_ (Fb (Ft (Tq hcx [] [18] [] [] [Fit ((i : Int) + 1)] ?_ (Fn [(0, .to 0), (606, .to 606), (607, .to 607), (608, .to 608), (700, .to 700)] [0, 1, 6, 7, 8, 16, 17, 18] (Lr (i + 1) ?_ ?_ (Ex 18 (congrArg AV.int (show ((i : Int) + 1) = ((i + 1) : Int) from (by first | rfl | omega | (simp; done)))) Eb) (Hx 700 (congrArg AObj.mset (show (addK (Cn.iniN (left.take i)) (-(left.getD i 0))) = (Cn.iniN (left.take (i + 1))) from (by exact Cn.iniN_next (by omega)))) Hb)))))))))))
    ·
     refine ap ?_ (ap ?_ az) <;>
      first | omega | exact id | exact vcNot | exact vcG | exact vcH | (intro _; omega) | exact (fun _ h => h) | (intro h; simp at h; omega) | (simp only [List.length_cons, List.length_nil, List.length_append, List.length_map, List.length_set, List.length_replicate]; omega) | (intro h; simp [h]; done) | exact True.intro | (have h8 := hbi (by omega); constructor <;> omega) | exact hdj | (unfold maxLen; omega) | (constructor <;> omega) | done
    ·
     refine ap ?_ (ap ?_ az) <;>
      first | omega | exact id | exact vcNot | exact vcG | exact vcH | (intro _; omega) | exact (fun _ h => h) | (intro h; simp at h; omega) | (simp only [List.length_cons, List.length_nil, List.length_append, List.length_map, List.length_set, List.length_replicate]; omega) | (intro h; simp [h]; done) | exact True.intro | (have h8 := hbi (by omega); constructor <;> omega) | exact hdj | (unfold maxLen; omega) | (constructor <;> omega) | done
    ·
     refine ap ?_ az
     first | omega | exact id | exact vcNot | exact vcG | exact vcH | (intro _; omega) | exact (fun _ h => h) | (intro h; simp at h; omega) | (simp only [List.length_cons, List.length_nil, List.length_append, List.length_map, List.length_set, List.length_replicate]; omega) | (intro h; simp [h]; done) | exact True.intro | (have h8 := hbi (by omega); constructor <;> omega) | exact hdj | (unfold maxLen; omega) | (constructor <;> omega) | done
    ·
     show (i + 1) ≤ left.length
     omega
    ·
     show left.length - (i + 1) < left.length - i
     omega
   ·
    refine Ze (Fe (Fe (Fs (Ft (Zs (Sz hcx [(1000, .to 611)] [11] [19, 16, 17, 18] [] (Zb (Zn [(0, .to 0), (606, .to 606), (607, .to 607), (608, .to 608), (611, .to 611), (700, .to 700)] [0, 1, 6, 7, 8, 11] (LpD (RB.refl rfl) (X := Nat × List Int × Bool) (fun x0 => Cn.CI c but left x0.1 x0.2.1 x0.2.2) (fun x0 => ([(0, .intss c), (1, .int but), (6, .loc 606 0), (7, .loc 607 0), (8, .loc 608 0), (11, .loc 611 0)], [(0, .row 3 (.ints left)), (606, .box [.im (.val (.map none))]), (607, .box [.bool false]), (608, .box [.row 700]), (611, .box [.bool x0.2.2]), (700, .mset x0.2.1)])) (fun x0 => (bif x0.2.2 then x0.1 else 0)) 989 ((Cn.restN (Cn.butL c but) (Cn.iniN left) + 1), (Cn.iniN (left.take i)), true) ?_ Eb Hb (fun x0 => ⟨by kernel_rfl, by kernel_rfl⟩) (Nat.le_of_ble_eq_true rfl) fun Wr Or βr dsr Gr hRB => fun ⟨n, ks, m⟩ hI => ?_)))))))))
    ·
     try dsimp only
     (rw [show i = left.length by omega, List.take_length]; exact Cn.ci_0)
    ·
     replace hI : Cn.CI c but left n ks m := hI
     have hci := hI
     refine Zs (Sz hcx [] [26] [] [] (Zi (b := m) (fun h1 => ?_) fun h1 => ?_))
     ·
      have hmt : m = true := h1
      rw [hmt] at hci
      refine Zk (Ft (Zs (Zb (Sz hcx [(611, .to 611)] [] [26] [] (Sq hcx [] [29] [] [] [(True)] ?_ (Zb ?_))))))
      ·
       refine ap ?_ az
       first | omega | exact id | exact vcNot | exact vcG | exact vcH | (intro _; omega) | exact (fun _ h => h) | (intro h; simp at h; omega) | (simp only [List.length_cons, List.length_nil, List.length_append, List.length_map, List.length_set, List.length_replicate]; omega) | (intro h; simp [h]; done) | exact True.intro | (have h8 := hbi (by omega); constructor <;> omega) | exact hdj | (unfold maxLen; omega) | (constructor <;> omega) | done
      refine tri_ren (ρ := [(0, .to 0), (606, .to 1), (607, .to 2), (608, .to 3), (611, .to 4), (700, .to 700)]) (keys := [29, 0, 1, 6, 7, 8, 11]) (E' := [(29, .clo 125 [.pto [.ls (.intss c)], .pto [.int but]]), (0, .intss c), (1, .int but), (6, .loc 1 0), (7, .loc 2 0), (8, .loc 3 0), (11, .loc 4 0)]) (H' := [(0, .row 3 (.ints left)), (1, .box [.im (.val (.map none))]), (2, .box [.bool false]), (3, .box [.row 700]), (4, .box [.bool false]), (700, .mset ks)]) (by kernel_rfl) ?_
      refine tri_range (X := List Int × Bool) rfl but_seq (caps := [.pto [.ls (.intss c)], .pto [.int but]]) (by kernel_rfl) (N := (Cn.butL c but).length) (el := fun j => [.ints ((Cn.butL c but).getD j [])]) rfl (by kernel_rfl) ?_ 5 970 989 (by kernel_rfl) (fun j x0 => Cn.passF (Cn.butL c but) ks false = Cn.passF ((Cn.butL c but).drop j) x0.1 x0.2) (fun j x0 => [(0, .row 3 (.ints left)), (1, .box [.im (.val (.map none))]), (2, .box [.bool false]), (3, .box [.row 700]), (4, .box [.bool x0.2]), (700, .mset x0.1)]) (fun j x0 => [(29, .clo 125 [.pto [.ls (.intss c)], .pto [.int but]]), (0, .intss c), (1, .int but), (6, .loc 1 0), (7, .loc 2 0), (8, .loc 3 0), (11, .loc 4 0), (12, .ints ((Cn.butL c but).getD j []))]) (fun j x0 => [(0, .row 3 (.ints left)), (1, .box [.im (.val (.map none))]), (2, .box [.bool false]), (3, .box [.row 700]), (4, .box [.bool x0.2]), (700, .mset x0.1)]) (ks, false) ?_ ?_ (fun _ _ => rfl) (fun _ _ _ => by kernel_rfl) (fun _ _ => by kernel_rfl) ?_ ?_ ?_
      ·
       (unfold maxLen; omega)
      ·
       show Cn.passF (Cn.butL c but) ks false = Cn.passF ((Cn.butL c but).drop 0) ks false
       rfl
      ·
       exact Hb
      ·
       intro Wr Or βr Gr l0 r0 j ⟨ks2, m2⟩ hi0 hI0
       replace hI0 : Cn.passF (Cn.butL c but) ks false = Cn.passF ((Cn.butL c but).drop j) ks2 m2 := hI0
       have hps := hI0
       have hdj := hd2 j hi0
       change Tri _ [(30, .ints ((Cn.butL c but).getD j [])), (29, .clo 125 [.pto [.ls (.intss c)], .pto [.int but]]), (0, .intss c), (1, .int but), (6, .loc 1 0), (7, .loc 2 0), (8, .loc 3 0), (11, .loc 4 0)] [(970, .other l0 (.loop r0)), (0, .row 3 (.ints left)), (1, .box [.im (.val (.map none))]), (2, .box [.bool false]), (3, .box [.row 700]), (4, .box [.bool m2]), (700, .mset ks2)] _ _
       refine Zt (Tz hcx [] [12] [30] [] ?_)
       refine fin_assign ?_ ?_
       ·
        exact Eb
       ·
        exact Hb
      ·
       intro Wr Or βr Gr l0 r0 j ⟨ks2, m2⟩ hi0 hI0
       replace hI0 : Cn.passF (Cn.butL c but) ks false = Cn.passF ((Cn.butL c but).drop j) ks2 m2 := hI0
       have hps := hI0
       have hdj := hd2 j hi0
       change Tri _ [(29, .clo 125 [.pto [.ls (.intss c)], .pto [.int but]]), (0, .intss c), (1, .int but), (6, .loc 1 0), (7, .loc 2 0), (8, .loc 3 0), (11, .loc 4 0), (12, .ints ((Cn.butL c but).getD j []))] [(970, .other l0 (.loop r0)), (0, .row 3 (.ints left)), (1, .box [.im (.val (.map none))]), (2, .box [.bool false]), (3, .box [.row 700]), (4, .box [.bool m2]), (700, .mset ks2)] _ _
       refine Zt (Zb (Sq hcx [(700, .to 700)] [13, 14] [29, 0, 1, 12] [] [(((Cn.butL c but).getD j []).length ≤ maxLen ∧ ∀ x ∈ ((Cn.butL c but).getD j []), -65536 ≤ x ∧ x ≤ 65536)] ?_ (Zs (Sz hcx [] [37] [14] [] (Zi (b := (Cn.unitF (Cn.hasK ks2) 0 ((Cn.butL c but).getD j [])).2) (fun h2 => ?_) fun h2 => ?_)))))
       ·
        refine ap ?_ az
        first | omega | exact id | exact vcNot | exact vcG | exact vcH | (intro _; omega) | exact (fun _ h => h) | (intro h; simp at h; omega) | (simp only [List.length_cons, List.length_nil, List.length_append, List.length_map, List.length_set, List.length_replicate]; omega) | (intro h; simp [h]; done) | exact True.intro | (have h8 := hbi (by omega); constructor <;> omega) | exact hdj | (unfold maxLen; omega) | (constructor <;> omega) | done
       ·
        have hw : (Cn.unitF (Cn.hasK ks2) 0 ((Cn.butL c but).getD j [])).2 = true := h2
        have hcn := Cn.ci_bad hci (Cn.ps_bad (by omega) hps hw)
        refine Sz hcx [(1, .to 1), (2, .to 2)] [] [37, 13, 8, 11] [] (Zr (Fr (Fk ?_)))
        refine fin_ren (ρ := [(970, .to 970), (0, .to 0), (1, .to 1), (2, .to 2), (3, .to 3), (4, .to 4), (700, .to 700)]) (keys := []) (E' := []) (H' := [(970, .other l0 (.loop r0)), (0, .row 3 (.ints left)), (1, .box [.im (.val (.map none))]), (2, .box [.bool false]), (3, .box [.row 700]), (4, .box [.bool m2]), (700, .mset ks2)]) (by kernel_rfl) ?_
        refine fin_rret [(0, .row 3 (.ints left)), (1, .box [.im (.val (.map none))]), (2, .box [.bool false]), (3, .box [.row 700]), (4, .box [.bool m2]), (700, .mset ks2)] rfl (by kernel_rfl) ⟨by kernel_rfl, fun D0 => ?_⟩
        change Fin _ [(29, .clo 125 [.pto [.ls (.intss c)], .pto [.int but]]), (0, .intss c), (1, .int but), (6, .loc 1 0), (7, .loc 2 0), (8, .loc 3 0), (11, .loc 4 0)] [(989, .other D0 dfr), (0, .row 3 (.ints left)), (1, .box [.im (.val (.map none))]), (2, .box [.bool false]), (3, .box [.row 700]), (4, .box [.bool m2]), (700, .mset ks2)] _ _
        exact Zf (Fk (Fk (Fr (Fr (Fk (Fr (Fn [(0, .to 0), (989, .to 989), (1, .to 990), (2, .to 991)] [6, 7] (RvC 989 D0 hRB hcx rfl [true] rfl))))))))
       ·
        have hw : (Cn.unitF (Cn.hasK ks2) 0 ((Cn.butL c but).getD j [])).2 = false := h2
        refine Zk (Ft (Sz hcx [] [39] [37, 6, 7] [] (Zx (a := ((Cn.unitF (Cn.hasK ks2) 0 ((Cn.butL c but).getD j [])).1)) (b := 0) (fun h3 => ?_) fun h3 => ?_)))
        ·
         have hu := h3
         refine Tq hcx [(4, .to 4), (700, .to 700)] [] [39, 13, 8, 11] [] [(true = true)] ?_ (Fb (Fn [(970, .to 970), (0, .to 0), (1, .to 1), (2, .to 2), (3, .to 3), (4, .to 4), (700, .to 700)] [] ?_))
         ·
          refine ap ?_ az
          first | omega | exact id | exact vcNot | exact vcG | exact vcH | (intro _; omega) | exact (fun _ h => h) | (intro h; simp at h; omega) | (simp only [List.length_cons, List.length_nil, List.length_append, List.length_map, List.length_set, List.length_replicate]; omega) | (intro h; simp [h]; done) | exact True.intro | (have h8 := hbi (by omega); constructor <;> omega) | exact hdj | (unfold maxLen; omega) | (constructor <;> omega) | done
         refine fin_rnext ((Cn.psK ks2 (Cn.unitF (Cn.hasK ks2) 0 ((Cn.butL c but).getD j [])).1), (Cn.psM m2 (Cn.unitF (Cn.hasK ks2) 0 ((Cn.butL c but).getD j [])).1)) ?_ ?_
         ·
          show Cn.passF (Cn.butL c but) ks false = Cn.passF ((Cn.butL c but).drop (j + 1)) (Cn.psK ks2 (Cn.unitF (Cn.hasK ks2) 0 ((Cn.butL c but).getD j [])).1) (Cn.psM m2 (Cn.unitF (Cn.hasK ks2) 0 ((Cn.butL c but).getD j [])).1)
          exact Cn.ps_next (by omega) hps hw
         ·
          exact Hx 4 (o := .box [.bool true]) (o' := .box [.bool (Cn.psM m2 (Cn.unitF (Cn.hasK ks2) 0 ((Cn.butL c but).getD j [])).1)]) (congrArg AObj.box (consE (congrArg AV.bool (show true = (Cn.psM m2 (Cn.unitF (Cn.hasK ks2) 0 ((Cn.butL c but).getD j [])).1) from (by first | exact (Cn.psM_1 hu).symm | exact (Cn.psM_0 hu).symm))) rfl)) (Hx 700 (congrArg AObj.mset (show (addK ks2 ((Cn.unitF (Cn.hasK ks2) 0 ((Cn.butL c but).getD j [])).1)) = (Cn.psK ks2 (Cn.unitF (Cn.hasK ks2) 0 ((Cn.butL c but).getD j [])).1) from (by first | exact (Cn.psK_1 hu).symm | exact (Cn.psK_0 hu).symm))) Hb)
        ·
         have hu := h3
         refine Zk (Fb (Fn [(970, .to 970), (0, .to 0), (1, .to 1), (2, .to 2), (3, .to 3), (4, .to 4), (700, .to 700)] [] ?_))
         refine fin_rnext ((Cn.psK ks2 (Cn.unitF (Cn.hasK ks2) 0 ((Cn.butL c but).getD j [])).1), (Cn.psM m2 (Cn.unitF (Cn.hasK ks2) 0 ((Cn.butL c but).getD j [])).1)) ?_ ?_
         ·
          show Cn.passF (Cn.butL c but) ks false = Cn.passF ((Cn.butL c but).drop (j + 1)) (Cn.psK ks2 (Cn.unitF (Cn.hasK ks2) 0 ((Cn.butL c but).getD j [])).1) (Cn.psM m2 (Cn.unitF (Cn.hasK ks2) 0 ((Cn.butL c but).getD j [])).1)
          exact Cn.ps_next (by omega) hps hw
         ·
          exact Hx 4 (o := .box [.bool m2]) (o' := .box [.bool (Cn.psM m2 (Cn.unitF (Cn.hasK ks2) 0 ((Cn.butL c but).getD j [])).1)]) (congrArg AObj.box (consE (congrArg AV.bool (show m2 = (Cn.psM m2 (Cn.unitF (Cn.hasK ks2) 0 ((Cn.butL c but).getD j [])).1) from (by first | exact (Cn.psM_1 hu).symm | exact (Cn.psM_0 hu).symm))) rfl)) (Hx 700 (congrArg AObj.mset (show ks2 = (Cn.psK ks2 (Cn.unitF (Cn.hasK ks2) 0 ((Cn.butL c but).getD j [])).1) from (by first | exact (Cn.psK_1 hu).symm | exact (Cn.psK_0 hu).symm))) Hb)
      ·
       intro D0 ⟨ks2, m2⟩ hI0
       replace hI0 : Cn.passF (Cn.butL c but) ks false = Cn.passF ((Cn.butL c but).drop ((Cn.butL c but).length)) ks2 m2 := hI0
       have hpe := Cn.ps_end hI0
       change Fin _ [(29, .clo 125 [.pto [.ls (.intss c)], .pto [.int but]]), (0, .intss c), (1, .int but), (6, .loc 1 0), (7, .loc 2 0), (8, .loc 3 0), (11, .loc 4 0)] [(989, .other D0 dfr), (0, .row 3 (.ints left)), (1, .box [.im (.val (.map none))]), (2, .box [.bool false]), (3, .box [.row 700]), (4, .box [.bool m2]), (700, .mset ks2)] _ _
       refine Zf (Fb (Fb (Ft (Sz hcx [] [42] [29, 11] [4] (Tz hcx [(1000, .to 611)] [11] [42] [] (Fn [(989, .to 989), (0, .to 0), (1, .to 606), (2, .to 607), (3, .to 608), (611, .to 611), (700, .to 700)] [0, 1, 6, 7, 8, 11] (LrD ((n - 1), ks2, m2) ?_ ?_ Eb Hb)))))))
       ·
        show Cn.CI c but left (n - 1) ks2 m2
        exact (Cn.ci_next hz hci hpe).2
       ·
        try dsimp only
        (have h8 := (Cn.ci_next hz hci hpe).1; rw [hmt]; cases m2 <;> simp <;> omega)
     ·
      (exfalso; have hcs := hci.2 h1; rw [hcv] at hcs; cases hcs)
 ·
  cases hσ
def cxTA : Cx := ⟨tyTidy, [(67, (coeF [.ld (.intss []), .id, .id] tComesA_σ))], true⟩
theorem cxTA_ok : CxOk Tryz.prog cxTA := cx_ok tyTidy_ok ⟨(tComesA_sound.coe [.ld (.intss []), .id, .id] rfl), trivial⟩
def cxTB : Cx := ⟨tyTidy, [(67, (coeF [.ld (.intss []), .id, .id] tComesB_σ))], true⟩
theorem cxTB_ok : CxOk Tryz.prog cxTB := cx_ok tyTidy_ok ⟨(tComesB_sound.coe [.ld (.intss []), .id, .id] rfl), trivial⟩
def cx_tViv : Cx := ⟨tyTidy, [(27, (coeF [.agg [.id, .ld (.intss [])]] cCheck_σ)), (66, (coeF [.ld (.ints [])] cNorm_σ))], true⟩
theorem cx_tViv_ok : CxOk Tryz.prog cx_tViv := cx_ok tyTidy_ok ⟨(cCheck_sound.coe [.agg [.id, .ld (.intss [])]] rfl), (cNorm_sound.coe [.ld (.ints [])] rfl), trivial⟩
def tViv_σ : CtF
  | [.agg [.im (.val (.int .i64 N)), .im (.ls (.intss L))], .im (.val (.int .i64 k))], [] => some (L.length ≤ 100000 ∧ (∀ l ∈ L, l.length ≤ 1000000) ∧ Fit k, .tup [.ints ((Cn.vivR N L k).1), .int ((Cn.vivR N L k).2)], [])
  | _, _ => none
set_option maxRecDepth 4000 in
set_option maxHeartbeats 2000000 in
theorem tViv_sound : Sound Tryz.prog 30 tViv_σ := by
 refine Sw (cx := cx_tViv) Tryz.f30 Tryz.func30 ?_
 intro wW wO wβ G0 args os p r outs hσ hp
 have hcx := cx_tViv_ok
 unfold tViv_σ at hσ
 split at hσ
 ·
  rename_i N L k
  cases hσ
  refine ⟨by kernel_rfl, ?_⟩
  obtain ⟨hm1, hm2, hk1, hk2⟩ := hp
  have hm9 : ∀ l ∈ L, l.length ≤ maxLen := fun l hl => by have := hm2 l hl; unfold maxLen; omega
  refine Sz hcx [(1000, .frz)] [2] [0] [] (Zs (Sq hcx [] [6] [] [] [(L.length ≤ maxLen ∧ ∀ z9 ∈ L, z9.length ≤ maxLen)] ?_ (Sz hcx [] [17] [] [] (Zx (a := (Cn.chkV N L)) (b := 0) (fun h0 => ?_) fun h0 => ?_))))
  ·
   refine ap ?_ az
   first | omega | exact id | exact vcNot | exact vcG | exact vcH | (intro _; omega) | exact (fun _ h => h) | (intro h; simp at h; omega) | (simp only [List.length_cons, List.length_nil, List.length_append, List.length_map, List.length_set, List.length_replicate]; omega) | (intro h; simp [h]; done) | exact ⟨by unfold maxLen; omega, hm9⟩ | exact ⟨by omega, hm9, hlit, by unfold maxLen; omega, hlx, hk⟩ | (unfold maxLen; omega) | (constructor <;> omega) | done
  ·
   have hr := Cn.vr_chk (k := k) h0
   exact Sz hcx [] [4, 5] [17, 6, 2, 1] [] (Zr (Fr (Fp 4 (.ints []) (Rv hcx (congrArg AV.tup (consE (congrArg AV.ints (show [] = (Cn.vivR N L k).1 from (by (rw [hr]; done)))) (consE (congrArg AV.int (show (Cn.chkV N L) = (Cn.vivR N L k).2 from (by (rw [hr]; done)))) rfl))) [] rfl))))
  ·
   have h17_ : Cn.chkV N L = 0 := by have := h0; omega
   have hlit := Cn.chk_litT h17_
   refine Zk (Ft (Zs (Sq hcx [] [27] [17, 6] [] [((!(decide (k < 0))) = true → ((!(decide (k < 0))) = true)), ((!(decide (k < 0))) = true → ((!(decide (k < 0))) = true)), ((!(decide (k < 0))) = true → ((!(decide (k < 0))) = true)), ((!(decide (k < 0))) = true → ((!(decide (k < 0))) = true)), ((decide (k < 0)) = false → (!(decide (k < 0))) = true)] ?_ (Zi (b := (decide (k < 0)) || (decide (k ≥ (L.length : Int)))) (fun h1 => ?_) fun h1 => ?_))))
   ·
    refine ap ?_ (ap ?_ (ap ?_ (ap ?_ (ap (by exact vcNot) az)))) <;>
     first | omega | exact id | exact vcNot | exact vcG | exact vcH | (intro _; omega) | exact (fun _ h => h) | (intro h; simp at h; omega) | (simp only [List.length_cons, List.length_nil, List.length_append, List.length_map, List.length_set, List.length_replicate]; omega) | (intro h; simp [h]; done) | exact ⟨by unfold maxLen; omega, hm9⟩ | exact ⟨by omega, hm9, hlit, by unfold maxLen; omega, hlx, hk⟩ | (unfold maxLen; omega) | (constructor <;> omega) | done
   ·
    have hr := Cn.vr_arg h17_ h1
    exact Sz hcx [] [4, 5] [27, 2, 1] [] (Zr (Fr (Fp 4 (.ints []) (Rv hcx (congrArg AV.tup (consE (congrArg AV.ints (show [] = (Cn.vivR N L k).1 from (by (rw [hr]; done)))) (consE (congrArg AV.int (show 1 = (Cn.vivR N L k).2 from (by (rw [hr]; done)))) rfl))) [] rfl))))
   ·
    have hkk := Cn.vr_in h1
    have hr0 := Cn.vr_ok h17_ hkk
    have hnl := Cn.norm_len (L.getD k.toNat [])
    have hcl := hm2 _ (Cn.getD_memL (d := ([] : List Int)) (k := k.toNat) (by omega))
    refine Zk (Ft (Sq hcx [(1005, .to 234)] [7] [27] [] [((0 : Int) ≤ k ∧ k < (L.length : Int)), ((L.getD k.toNat []).length ≤ 1000000)] ?_ (Sz hcx [] [9] [] [] (Zs (Sz hcx [] [37, 38, 39] [7] [] (Zb (Zw 9 700 3 (.ints []) (Zn [(234, .to 234), (700, .to 700)] [1, 2, 9, 37, 38, 39] (Lp (X := Nat × List Int) (fun x0 => x0.1 ≤ (Cn.normL (L.getD k.toNat [])).length ∧ Cn.vivF L k [] (Cn.normL (L.getD k.toNat [])) = Cn.vivF L k x0.2 ((Cn.normL (L.getD k.toNat [])).drop x0.1) ∧ x0.2.length ≤ x0.1 ∧ ∀ x ∈ x0.2, -65536 ≤ x ∧ x ≤ 65536) (fun x0 => ([(1, .int k), (2, .pto [.int N, .ls (.intss L)]), (9, .row 700), (37, .row 234), (38, .int ((Cn.normL (L.getD k.toNat [])).length : Int)), (39, .int (x0.1 : Int))], [(234, .row 3 (.ints (Cn.normL (L.getD k.toNat [])))), (700, .row 3 (.ints x0.2))])) (fun x0 => (Cn.normL (L.getD k.toNat [])).length - x0.1) (0, ([] : List Int)) ?_ (Ex 39 (congrArg AV.int (show 0 = (0 : Int) from (by first | rfl | omega | (simp; done)))) Eb) Hb fun ⟨i, left⟩ hI => ?_)))))))))
    ·
     refine ap ?_ (ap ?_ az) <;>
      first | omega | exact id | exact vcNot | exact vcG | exact vcH | (intro _; omega) | exact (fun _ h => h) | (intro h; simp at h; omega) | (simp only [List.length_cons, List.length_nil, List.length_append, List.length_map, List.length_set, List.length_replicate]; omega) | (intro h; simp [h]; done) | exact ⟨by unfold maxLen; omega, hm9⟩ | exact ⟨by omega, hm9, hlit, by unfold maxLen; omega, hlx, hk⟩ | (unfold maxLen; omega) | (constructor <;> omega) | done
    ·
     try dsimp only
     exact ⟨Nat.zero_le _, rfl, Nat.le_refl _, fun x hx => by cases hx⟩
    ·
     try dsimp only at hI
     obtain ⟨hi, hv, hll, hlx⟩ := hI
     refine Sz hcx [] [40] [] [] (Zs (Zj (p := ((i : Int) < ((Cn.normL (L.getD k.toNat [])).length : Int))) (fun h2 => ?_) fun h2 => ?_))
     ·
      have h40_ := h2
      have hxb := Cn.norm_bd (l := L.getD k.toNat []) (j := i) (by omega)
      refine Zk (Ft (Zs (Zb (Sq hcx [] [11] [40] [] [((0 : Int) ≤ (i : Int) ∧ (i : Int) < ((Cn.normL (L.getD k.toNat [])).length : Int)), (i < (Cn.normL (L.getD k.toNat [])).length)] ?_ (Zs ?_)))))
      ·
       refine ap ?_ (ap ?_ az) <;>
        first | omega | exact id | exact vcNot | exact vcG | exact vcH | (intro _; omega) | exact (fun _ h => h) | (intro h; simp at h; omega) | (simp only [List.length_cons, List.length_nil, List.length_append, List.length_map, List.length_set, List.length_replicate]; omega) | (intro h; simp [h]; done) | exact ⟨by unfold maxLen; omega, hm9⟩ | exact ⟨by omega, hm9, hlit, by unfold maxLen; omega, hlx, hk⟩ | (unfold maxLen; omega) | (constructor <;> omega) | done
      rcases (((Classical.em (Cn.comesV L k left = none)).symm : Cn.comesV L k left ≠ none ∨ Cn.comesV L k left = none) : Cn.comesV L k left ≠ none ∨ Cn.comesV L k left = none) with hk | hk
      ·
       refine Tc cxTA cxTA_ok [(1004, .to 248), (700, .to 700)] [12, 13] [] [] [(L.length ≤ 100000 ∧ (∀ l ∈ L, l.length ≤ maxLen) ∧ (∀ l ∈ L, ∀ x ∈ l, x ≠ 0 ∧ -65536 ≤ x ∧ x ≤ 65536) ∧ left.length ≤ maxLen ∧ (∀ x ∈ left, -65536 ≤ x ∧ x ≤ 65536) ∧ Cn.comesV L k left ≠ none)] ?_ ?_
       ·
        refine ap ?_ az
        first | omega | exact id | exact vcNot | exact vcG | exact vcH | (intro _; omega) | exact (fun _ h => h) | (intro h; simp at h; omega) | (simp only [List.length_cons, List.length_nil, List.length_append, List.length_map, List.length_set, List.length_replicate]; omega) | (intro h; simp [h]; done) | exact ⟨by unfold maxLen; omega, hm9⟩ | exact ⟨by omega, hm9, hlit, by unfold maxLen; omega, hlx, hk⟩ | (unfold maxLen; omega) | (constructor <;> omega) | done
       refine Ft (Zb (Sz hcx [] [51] [13] [] (Zi (b := !true) (fun h3 => ?_) fun h3 => ?_)))
       ·
        cases h3
       ·
        have hcs := Cn.some_isN hk
        refine Sz hcx [] [55] [51] [] (Zi (b := (Cn.isN (Cn.comesV L k left)).contains ((Cn.normL (L.getD k.toNat [])).getD i 0)) (fun h4 => ?_) fun h4 => ?_)
        ·
         have hr := hr0.trans (congrArg (fun z => (z, (0 : Int))) (Cn.vv_hit (by omega) hv hcs h4))
         refine Sq hcx [(1003, .to 700)] [4, 5] [55, 12, 11, 1, 2, 9, 37, 38, 39] [248, 700, 234] [((left.length + [((Cn.normL (L.getD k.toNat [])).getD i 0)].length) * 8 ≤ 140737488355328)] ?_ (Zr (Fk (Fk (Fr (Fr (Fk (Fr (Fn [(700, .frz)] [4, 5] (Rv hcx (congrArg AV.tup (consE (congrArg AV.ints (show (left ++ [((Cn.normL (L.getD k.toNat [])).getD i 0)]) = (Cn.vivR N L k).1 from (by (rw [hr]; done)))) (consE (congrArg AV.int (show 0 = (Cn.vivR N L k).2 from (by (rw [hr]; done)))) rfl))) [] rfl)))))))))
         ·
          refine ap ?_ az
          first | omega | exact id | exact vcNot | exact vcG | exact vcH | (intro _; omega) | exact (fun _ h => h) | (intro h; simp at h; omega) | (simp only [List.length_cons, List.length_nil, List.length_append, List.length_map, List.length_set, List.length_replicate]; omega) | (intro h; simp [h]; done) | exact ⟨by unfold maxLen; omega, hm9⟩ | exact ⟨by omega, hm9, hlit, by unfold maxLen; omega, hlx, hk⟩ | (unfold maxLen; omega) | (constructor <;> omega) | done
        ·
         have h55_ := h4
         refine Sq hcx [] [63] [55, 12] [248] [Fit (-((Cn.normL (L.getD k.toNat [])).getD i 0))] ?_ (Zi (b := !((Cn.isN (Cn.comesV L k left)).contains (-((Cn.normL (L.getD k.toNat [])).getD i 0)))) (fun h5 => ?_) fun h5 => ?_)
         ·
          refine ap ?_ az
          first | omega | exact id | exact vcNot | exact vcG | exact vcH | (intro _; omega) | exact (fun _ h => h) | (intro h; simp at h; omega) | (simp only [List.length_cons, List.length_nil, List.length_append, List.length_map, List.length_set, List.length_replicate]; omega) | (intro h; simp [h]; done) | exact ⟨by unfold maxLen; omega, hm9⟩ | exact ⟨by omega, hm9, hlit, by unfold maxLen; omega, hlx, hk⟩ | (unfold maxLen; omega) | (constructor <;> omega) | done
         ·
          have hvn := (Cn.vn_1 (left := left) h5).symm
          have hnx := Cn.tv_next1 (by omega) hv hcs h55_ h5 hll hlx hxb
          refine Tq hcx [(1003, .to 700)] [9] [63, 11] [700] [((left.length + [((Cn.normL (L.getD k.toNat [])).getD i 0)].length) * 8 ≤ 140737488355328)] ?_ (Fb (Fb (Ft (Tq hcx [] [39] [] [] [Fit ((i : Int) + 1)] ?_ (Fn [(234, .to 234), (700, .to 700)] [1, 2, 9, 37, 38, 39] (Lr (i + 1, (Cn.vivN (Cn.isN (Cn.comesV L k left)) left ((Cn.normL (L.getD k.toNat [])).getD i 0))) ?_ ?_ (Ex 39 (congrArg AV.int (show ((i : Int) + 1) = ((i + 1) : Int) from (by first | rfl | omega | (simp; done)))) Eb) (Hx 700 (congrArg (fun x => AObj.row 3 (.ints x)) (show (left ++ [((Cn.normL (L.getD k.toNat [])).getD i 0)]) = (Cn.vivN (Cn.isN (Cn.comesV L k left)) left ((Cn.normL (L.getD k.toNat [])).getD i 0)) from (by exact hvn))) Hb)))))))
          ·
           refine ap ?_ az
           first | omega | exact id | exact vcNot | exact vcG | exact vcH | (intro _; omega) | exact (fun _ h => h) | (intro h; simp at h; omega) | (simp only [List.length_cons, List.length_nil, List.length_append, List.length_map, List.length_set, List.length_replicate]; omega) | (intro h; simp [h]; done) | exact ⟨by unfold maxLen; omega, hm9⟩ | exact ⟨by omega, hm9, hlit, by unfold maxLen; omega, hlx, hk⟩ | (unfold maxLen; omega) | (constructor <;> omega) | done
          ·
           refine ap ?_ az
           first | omega | exact id | exact vcNot | exact vcG | exact vcH | (intro _; omega) | exact (fun _ h => h) | (intro h; simp at h; omega) | (simp only [List.length_cons, List.length_nil, List.length_append, List.length_map, List.length_set, List.length_replicate]; omega) | (intro h; simp [h]; done) | exact ⟨by unfold maxLen; omega, hm9⟩ | exact ⟨by omega, hm9, hlit, by unfold maxLen; omega, hlx, hk⟩ | (unfold maxLen; omega) | (constructor <;> omega) | done
          ·
           try dsimp only
           exact hnx
          ·
           try dsimp only
           omega
         ·
          have hvn := (Cn.vn_0 (left := left) h5).symm
          have hnx := Cn.tv_next0 (by omega) hv hcs h55_ h5 hll hlx
          refine Zk (Fb (Fb (Ft (Tq hcx [] [39] [63, 11] [] [Fit ((i : Int) + 1)] ?_ (Fn [(234, .to 234), (700, .to 700)] [1, 2, 9, 37, 38, 39] (Lr (i + 1, (Cn.vivN (Cn.isN (Cn.comesV L k left)) left ((Cn.normL (L.getD k.toNat [])).getD i 0))) ?_ ?_ (Ex 39 (congrArg AV.int (show ((i : Int) + 1) = ((i + 1) : Int) from (by first | rfl | omega | (simp; done)))) Eb) (Hx 700 (congrArg (fun x => AObj.row 3 (.ints x)) (show left = (Cn.vivN (Cn.isN (Cn.comesV L k left)) left ((Cn.normL (L.getD k.toNat [])).getD i 0)) from (by exact hvn))) Hb)))))))
          ·
           refine ap ?_ az
           first | omega | exact id | exact vcNot | exact vcG | exact vcH | (intro _; omega) | exact (fun _ h => h) | (intro h; simp at h; omega) | (simp only [List.length_cons, List.length_nil, List.length_append, List.length_map, List.length_set, List.length_replicate]; omega) | (intro h; simp [h]; done) | exact ⟨by unfold maxLen; omega, hm9⟩ | exact ⟨by omega, hm9, hlit, by unfold maxLen; omega, hlx, hk⟩ | (unfold maxLen; omega) | (constructor <;> omega) | done
          ·
           try dsimp only
           exact hnx
          ·
           try dsimp only
           omega
      ·
       refine Tc cxTB cxTB_ok [(700, .to 700)] [12, 13] [] [] [(L.length ≤ 100000 ∧ (∀ l ∈ L, l.length ≤ maxLen) ∧ (∀ l ∈ L, ∀ x ∈ l, x ≠ 0 ∧ -65536 ≤ x ∧ x ≤ 65536) ∧ left.length ≤ maxLen ∧ (∀ x ∈ left, -65536 ≤ x ∧ x ≤ 65536) ∧ Cn.comesV L k left = none)] ?_ ?_
       ·
        refine ap ?_ az
        first | omega | exact id | exact vcNot | exact vcG | exact vcH | (intro _; omega) | exact (fun _ h => h) | (intro h; simp at h; omega) | (simp only [List.length_cons, List.length_nil, List.length_append, List.length_map, List.length_set, List.length_replicate]; omega) | (intro h; simp [h]; done) | exact ⟨by unfold maxLen; omega, hm9⟩ | exact ⟨by omega, hm9, hlit, by unfold maxLen; omega, hlx, hk⟩ | (unfold maxLen; omega) | (constructor <;> omega) | done
       refine Ft (Zb (Sz hcx [] [51] [13] [] (Zi (b := !false) (fun h6 => ?_) fun h6 => ?_)))
       ·
        have hr := hr0.trans (congrArg (fun z => (z, (0 : Int))) (Cn.vv_conf (by omega) hv hk))
        exact Sz hcx [] [4, 5] [51, 12, 11, 1, 2, 9, 37, 38, 39] [234] (Zr (Fk (Fk (Fr (Fr (Fk (Fr (Fn [(700, .frz)] [4, 5] (Rv hcx (congrArg AV.tup (consE (congrArg AV.ints (show left = (Cn.vivR N L k).1 from (by (rw [hr]; done)))) (consE (congrArg AV.int (show 0 = (Cn.vivR N L k).2 from (by (rw [hr]; done)))) rfl))) [] rfl)))))))))
       ·
        cases h6
     ·
      have hr := hr0.trans (congrArg (fun z => (z, (0 : Int))) (Cn.vv_end (by omega) hv))
      exact Ze (Fe (Fe (Fs (Ft (Sz hcx [] [4, 5] [40, 1, 2, 9, 37, 38, 39] [234] (Zr (Fn [(700, .frz)] [4, 5] (Rv hcx (congrArg AV.tup (consE (congrArg AV.ints (show left = (Cn.vivR N L k).1 from (by (rw [hr]; done)))) (consE (congrArg AV.int (show 0 = (Cn.vivR N L k).2 from (by (rw [hr]; done)))) rfl))) [] rfl))))))))
 ·
  cases hσ
end Go.Proofs.YtbpbndlgfiammaaGreatDoor.En
