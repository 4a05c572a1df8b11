/- Lemmas and contracts for the row. -/
import Derived.Test.YtbpbndlgfiammaaGreatDoorPkRowProofTidyT
import Derived.Test.YtbpbndlgfiammaaGreatDoorPkRowProofTidyB
import Derived.Test.YtbpbndlgfiammaaGreatDoorProg
set_option linter.unusedVariables false
set_option linter.unusedSimpArgs false
set_option linter.unnecessarySimpa false
namespace Go.Proofs.YtbpbndlgfiammaaGreatDoor.En
open Go Go.RowKit
def tyCnf : List (Nat × TD) := [(3, ⟨1, false, [.int .i64 0], [], none, 8, false, 1, 1⟩),
  (4, ⟨1, false, [.bool false], [], none, 1, true, 0, 2⟩),
  (22, ⟨1, false, [.slice none 0 0], [], some 23, 24, false, 0, 0⟩),
  (23, ⟨1, false, [.slice none 0 0], [], some 3, 24, false, 0, 3⟩),
  (28, ⟨2, true, [.int .i64 0, .slice none 0 0], [(0, 3), (1, 22)], none, 32, false, 0, 6⟩),
  (31, ⟨1, false, [.int .i64 0], [], none, 8, false, 1, 1⟩),
  (45, ⟨1, false, [.slice none 0 0], [], some 4, 24, false, 0, 0⟩),
  (66, ⟨1, false, [.nilFunc], [], none, 8, false, 0, 0⟩),
  (75, ⟨1, false, [.nilFunc], [], none, 8, false, 0, 0⟩),
  (88, ⟨1, false, [.int .i64 0], [], none, 8, false, 1, 1⟩)]
theorem tyCnf_ok : AllTy Tryz.prog tyCnf := ⟨⟨by kernel_rfl, by kernel_rfl, by kernel_rfl⟩, ⟨by kernel_rfl, by kernel_rfl, by kernel_rfl⟩, ⟨by kernel_rfl, by kernel_rfl, by kernel_rfl⟩, ⟨by kernel_rfl, by kernel_rfl, by kernel_rfl⟩, ⟨by kernel_rfl, by kernel_rfl, by kernel_rfl⟩, ⟨by kernel_rfl, by kernel_rfl, by kernel_rfl⟩, ⟨by kernel_rfl, by kernel_rfl, by kernel_rfl⟩, ⟨by kernel_rfl, by kernel_rfl, by kernel_rfl⟩, ⟨by kernel_rfl, by kernel_rfl, by kernel_rfl⟩, ⟨by kernel_rfl, by kernel_rfl, by kernel_rfl⟩, trivial⟩
def cx_cMay : Cx := ⟨tyCnf, [], false⟩
theorem cx_cMay_ok : CxOk Tryz.prog cx_cMay := cx_ok tyCnf_ok trivial
def cMay_σ : CtF
  | [.im (.val (.int .i64 l)), .im (.val (.int .i64 n))], [] => some (0 ≤ n ∧ n ≤ 65536, .bool (Cn.mayP l n), [])
  | _, _ => none
theorem cMay_sound : Sound Tryz.prog 63 cMay_σ := by
 refine Sw (cx := cx_cMay) Tryz.f63 Tryz.func63 ?_
 intro wW wO wβ G0 args os p r outs hσ hp
 have hcx := cx_cMay_ok
 unfold cMay_σ at hσ
 split at hσ
 ·
  rename_i l n
  cases hσ
  refine ⟨by kernel_rfl, ?_⟩
  obtain ⟨hn0, hn1⟩ := hp
  refine Sz hcx [] [] [] [] (Sq hcx [] [4] [0, 1] [] [((l != 0) = true → ((l != 0) = true)), ((l != 0) = true → Fit (-n)), ((l != 0) = true → ((l != 0) = true)), ((l != 0) = true → ((l != 0) = true)), ((l != 0) = true → (l != 0) = true), (((l != 0) && (decide ((-n) ≤ l))) = true → (((l != 0) && (decide ((-n) ≤ l))) = true)), (((l != 0) && (decide ((-n) ≤ l))) = true → (((l != 0) && (decide ((-n) ≤ l))) = true)), (((l != 0) && (decide ((-n) ≤ l))) = true → ((l != 0) && (decide ((-n) ≤ l))) = true)] ?_ (Zr (Ru hcx [])))
  ·
   refine ap ?_ (ap ?_ (ap ?_ (ap ?_ (ap (by exact id) (ap ?_ (ap ?_ (ap (by exact id) az))))))) <;>
    first | omega | exact id | exact vcNot | exact vcG | exact vcH | (intro _; omega) | exact (fun _ h => h) | (intro h; simp at h; omega) | (simp only [List.length_cons, List.length_nil, List.length_append, List.length_map, List.length_set, List.length_replicate]; omega) | (intro h; simp [h]; done) | (intro _; constructor <;> omega)
 ·
  cases hσ
def cx_cOf : Cx := ⟨tyCnf, [], false⟩
theorem cx_cOf_ok : CxOk Tryz.prog cx_cOf := cx_ok tyCnf_ok trivial
def cOf_σ : CtF
  | [.im (.val (.int .i64 l))], [] => some (-9223372036854775807 ≤ l ∧ l ≤ 9223372036854775807, .int (l.natAbs : Int), [])
  | _, _ => none
theorem cOf_sound : Sound Tryz.prog 93 cOf_σ := by
 refine Sw (cx := cx_cOf) Tryz.f93 Tryz.func93 ?_
 intro wW wO wβ G0 args os p r outs hσ hp
 have hcx := cx_cOf_ok
 unfold cOf_σ at hσ
 split at hσ
 ·
  rename_i l
  cases hσ
  refine ⟨by kernel_rfl, ?_⟩
  obtain ⟨hn0, hn1⟩ := hp
  refine Sz hcx [] [] [] [] (Sq hcx [] [2] [0] [] [Fit (-l)] ?_ (Zr (Rv hcx (congrArg AV.int (show (max l (-l)) = (l.natAbs : Int) from (by omega))) [] rfl)))
  ·
   refine ap ?_ az
   first | omega | exact id | exact vcNot | exact vcG | exact vcH | (intro _; omega) | exact (fun _ h => h) | (intro h; simp at h; omega) | (simp only [List.length_cons, List.length_nil, List.length_append, List.length_map, List.length_set, List.length_replicate]; omega) | (intro h; simp [h]; done) | (constructor <;> omega)
 ·
  cases hσ
def cx_cTrue : Cx := ⟨tyCnf, [(63, cMay_σ), (93, cOf_σ)], false⟩
theorem cx_cTrue_ok : CxOk Tryz.prog cx_cTrue := cx_ok tyCnf_ok ⟨cMay_sound, cOf_sound, trivial⟩
def cTrue_σ : CtF
  | [.im (.val (.int .i64 l)), .im (.ls (.bools a))], [] => some (a.length ≤ maxLen, .bool (Cn.litV a l), [])
  | _, _ => none
theorem cTrue_sound : Sound Tryz.prog 65 cTrue_σ := by
 refine Sw (cx := cx_cTrue) Tryz.f65 Tryz.func65 ?_
 intro wW wO wβ G0 args os p r outs hσ hp
 have hcx := cx_cTrue_ok
 unfold cTrue_σ at hσ
 split at hσ
 ·
  rename_i l a
  cases hσ
  refine ⟨by kernel_rfl, ?_⟩
  unfold maxLen at hp
  refine Sz hcx [] [] [] [] (Zs (Sq hcx [] [8] [] [] [(0 ≤ (65536 : Int) ∧ (65536 : Int) ≤ 65536)] ?_ (Zi (b := !(Cn.mayP l (65536 : Int))) (fun h0 => ?_) fun h0 => ?_)))
  ·
   refine ap ?_ az
   first | omega | exact id | exact vcNot | exact vcG | exact vcH | (intro _; omega) | exact (fun _ h => h) | (intro h; simp at h; omega) | (simp only [List.length_cons, List.length_nil, List.length_append, List.length_map, List.length_set, List.length_replicate]; omega) | (intro h; simp [h]; done) | (constructor <;> omega) | trivial
  ·
   replace h0 := (notB_t h0)
   exact Sz hcx [] [4] [8, 0, 1] [] (Zr (Fr (Rv hcx (congrArg AV.bool (show false = (Cn.litV a l) from (by exact (Cn.litV_no h0).symm))) [] rfl)))
  ·
   replace h0 := (notB_f h0)
   have hmb := Cn.mayP_iff.1 h0
   refine Zk (Ft (Sq hcx [] [5] [8] [] [(-9223372036854775807 ≤ l ∧ l ≤ 9223372036854775807)] ?_ (Sq hcx [] [4] [5, 0, 1] [] [((decide ((l.natAbs : Int) < (a.length : Int))) = true → ((decide ((l.natAbs : Int) < (a.length : Int))) = true)), ((decide ((l.natAbs : Int) < (a.length : Int))) = true → ((decide ((l.natAbs : Int) < (a.length : Int))) = true)), ((decide ((l.natAbs : Int) < (a.length : Int))) = true → ((0 : Int) ≤ (l.natAbs : Int) ∧ (l.natAbs : Int) < (a.length : Int))), ((decide ((l.natAbs : Int) < (a.length : Int))) = true → ((decide ((l.natAbs : Int) < (a.length : Int))) = true)), ((decide ((l.natAbs : Int) < (a.length : Int))) = true → (decide ((l.natAbs : Int) < (a.length : Int))) = true)] ?_ (Zr (Rv hcx (congrArg AV.bool (show (((decide ((l.natAbs : Int) < (a.length : Int))) && (a.getD ((l.natAbs : Int).toNat) false)) == (decide (l > 0))) = (Cn.litV a l) from (by exact (Cn.litV_yes h0).symm))) [] rfl)))))
   ·
    refine ap ?_ az
    first | omega | exact id | exact vcNot | exact vcG | exact vcH | (intro _; omega) | exact (fun _ h => h) | (intro h; simp at h; omega) | (simp only [List.length_cons, List.length_nil, List.length_append, List.length_map, List.length_set, List.length_replicate]; omega) | (intro h; simp [h]; done) | (constructor <;> omega) | trivial
   ·
    refine ap ?_ (ap ?_ (ap ?_ (ap ?_ (ap (by exact id) az)))) <;>
     first | omega | exact id | exact vcNot | exact vcG | exact vcH | (intro _; omega) | exact (fun _ h => h) | (intro h; simp at h; omega) | (simp only [List.length_cons, List.length_nil, List.length_append, List.length_map, List.length_set, List.length_replicate]; omega) | (intro h; simp [h]; done) | (constructor <;> omega) | trivial
 ·
  cases hσ
def cx_cHolds1 : Cx := ⟨tyCnf, [(65, (coeF [.id, .ld (.bools [])] cTrue_σ))], false⟩
theorem cx_cHolds1_ok : CxOk Tryz.prog cx_cHolds1 := cx_ok tyCnf_ok ⟨(cTrue_sound.coe [.id, .ld (.bools [])] rfl), trivial⟩
def cHolds1_σ : CtF
  | [.im (.val (.int .i64 x)), .pto [.ls (.bools a)]], [] => some (a.length ≤ maxLen, .bool (Cn.litV a x), [])
  | _, _ => none
theorem cHolds1_sound : Sound Tryz.prog 64 cHolds1_σ := by
 refine Sw (cx := cx_cHolds1) Tryz.f64 Tryz.func64 ?_
 intro wW wO wβ G0 args os p r outs hσ hp
 have hcx := cx_cHolds1_ok
 unfold cHolds1_σ at hσ
 split at hσ
 ·
  rename_i x a
  cases hσ
  refine ⟨by kernel_rfl, ?_⟩
  exact Sz hcx [] [] [] [] (Sq hcx [] [3] [0, 1] [] [(a.length ≤ maxLen)] (ap (by exact hp) az) (Zr (Ru hcx [])))
 ·
  cases hσ
def cx_ixHolds : Cx := ⟨tyCnf, [(64, cHolds1_σ)], false⟩
theorem cx_ixHolds_ok : CxOk Tryz.prog cx_ixHolds := cx_ok tyCnf_ok ⟨cHolds1_sound, trivial⟩
def ixHolds_σ : CtF
  | [.im (.ls (.ints s)), .clo 64 [.pto [.ls (.bools a)]]], [] => some (s.length ≤ maxLen ∧ a.length ≤ maxLen, .int (Cn.idxF (fun x => Cn.litV a x) s), [])
  | _, _ => none
theorem ixHolds_sound : Sound Tryz.prog 92 ixHolds_σ := by
 refine Sw (cx := cx_ixHolds) Tryz.f92 Tryz.func92 ?_
 intro wW wO wβ G0 args os p r outs hσ hp
 have hcx := cx_ixHolds_ok
 unfold ixHolds_σ at hσ
 split at hσ
 ·
  rename_i s a
  cases hσ
  refine ⟨by kernel_rfl, ?_⟩
  obtain ⟨hm1, hpr⟩ := hp
  unfold maxLen at hm1
  refine Sz hcx [] [] [] [] (Zs (Sz hcx [] [7, 8] [] [] (Zb (Lp (X := Nat) (fun x0 => x0 ≤ s.length ∧ ∀ j, j < x0 → (Cn.litV a (s.getD j 0)) = false) (fun x0 => ([(0, .ints s), (1, .clo 64 [.pto [.ls (.bools a)]]), (7, .int (s.length : Int)), (8, .int (x0 : Int))], [])) (fun x0 => s.length - x0) (0) ?_ (Ex 8 (congrArg AV.int (show 0 = (0 : Int) from (by first | rfl | omega | (simp; done)))) Eb) Hb fun k hI => ?_))))
  ·
   exact ⟨Nat.zero_le _, fun j hj => by omega⟩
  ·
   try dsimp only at hI
   obtain ⟨hk, hok⟩ := hI
   refine Sz hcx [] [9] [] [] (Zs (Zj (p := ((k : Int) < (s.length : Int))) (fun h0 => ?_) fun h0 => ?_))
   ·
    refine Zk (Ft (Zs (Zb (Sz hcx [] [5] [9] [] (Sq hcx [] [16] [] [] [((0 : Int) ≤ (k : Int) ∧ (k : Int) < (s.length : Int)), (a.length ≤ maxLen)] ?_ (Zi (b := Cn.litV a (s.getD k 0)) (fun h1 => ?_) fun h1 => ?_))))))
    ·
     refine ap ?_ (ap ?_ az) <;>
      first | omega | exact id | exact vcNot | exact vcG | exact vcH | (intro _; omega) | exact (fun _ h => h) | (intro h; simp at h; omega) | (simp only [List.length_cons, List.length_nil, List.length_append, List.length_map, List.length_set, List.length_replicate]; omega) | (intro h; simp [h]; done) | exact hpr | trivial
    ·
     have hq := h1
     exact Sz hcx [] [4] [16, 5, 0, 1, 7, 8] [] (Zr (Fk (Fr (Fr (Fk (Fr (Rv hcx (congrArg AV.int (show (k : Int) = (Cn.idxF (fun x => Cn.litV a x) s) from (by exact (Cn.idxF_yes (p := (fun x => Cn.litV a x)) (by omega) hok hq).symm))) [] rfl)))))))
    ·
     have hq := h1
     refine Zk (Fb (Ft (Tq hcx [] [8] [16, 5] [] [Fit ((k : Int) + 1)] ?_ (Lr (k + 1) ?_ ?_ (Ex 8 (congrArg AV.int (show ((k : Int) + 1) = ((k + 1) : Int) from (by first | rfl | omega | (simp; done)))) Eb) Hb))))
     ·
      refine ap ?_ az
      first | omega | exact id | exact vcNot | exact vcG | exact vcH | (intro _; omega) | exact (fun _ h => h) | (intro h; simp at h; omega) | (simp only [List.length_cons, List.length_nil, List.length_append, List.length_map, List.length_set, List.length_replicate]; omega) | (intro h; simp [h]; done) | exact hpr | trivial
     ·
      exact ⟨by omega, Cn.falseSucc hok hq⟩
     ·
      show s.length - (k + 1) < s.length - k
      omega
   ·
    exact Ze (Fe (Fe (Fs (Ft (Sz hcx [] [4] [9, 0, 1, 7, 8] [] (Zr (Rv hcx (congrArg AV.int (show (-1) = (Cn.idxF (fun x => Cn.litV a x) s) from (by exact (Cn.idxF_no (p := (fun x => Cn.litV a x)) (Cn.all_mem (d := 0) (fun j hj => hok j (by omega)))).symm))) [] rfl)))))))
 ·
  cases hσ
def cx_ctHolds : Cx := ⟨tyCnf, [(92, (coeF [.ld (.ints []), .id] ixHolds_σ))], false⟩
theorem cx_ctHolds_ok : CxOk Tryz.prog cx_ctHolds := cx_ok tyCnf_ok ⟨(ixHolds_sound.coe [.ld (.ints []), .id] rfl), trivial⟩
def ctHolds_σ : CtF
  | [.im (.ls (.ints s)), .clo 64 [.pto [.ls (.bools a)]]], [] => some (s.length ≤ maxLen ∧ a.length ≤ maxLen, .bool (s.any (fun x => Cn.litV a x)), [])
  | _, _ => none
theorem ctHolds_sound : Sound Tryz.prog 61 ctHolds_σ := by
 refine Sw (cx := cx_ctHolds) Tryz.f61 Tryz.func61 ?_
 intro wW wO wβ G0 args os p r outs hσ hp
 have hcx := cx_ctHolds_ok
 unfold ctHolds_σ at hσ
 split at hσ
 ·
  rename_i s a
  cases hσ
  refine ⟨by kernel_rfl, ?_⟩
  refine Sz hcx [] [] [] [] (Sq hcx [] [4] [0, 1] [] [(s.length ≤ maxLen ∧ a.length ≤ maxLen)] ?_ (Zr (Rv hcx (congrArg AV.bool (show (decide ((Cn.idxF (fun x => Cn.litV a x) s) ≥ 0)) = (s.any (fun x => Cn.litV a x)) from (by exact Cn.idxF_any (p := (fun x => Cn.litV a x)) s))) [] rfl)))
  ·
   refine ap ?_ az
   first | exact hp | (intro h; exact h) | omega
 ·
  cases hσ
def cx_cCheck1 : Cx := ⟨tyCnf, [(63, cMay_σ)], false⟩
theorem cx_cCheck1_ok : CxOk Tryz.prog cx_cCheck1 := cx_ok tyCnf_ok ⟨cMay_sound, trivial⟩
def cCheck1_σ : CtF
  | [.im (.val (.int .i64 x)), .pto [.val (.int .i64 N), .ls (.intss L)]], [] => some (0 ≤ N ∧ N ≤ 65536, .bool (!(Cn.mayP x N)), [])
  | _, _ => none
theorem cCheck1_sound : Sound Tryz.prog 62 cCheck1_σ := by
 refine Sw (cx := cx_cCheck1) Tryz.f62 Tryz.func62 ?_
 intro wW wO wβ G0 args os p r outs hσ hp
 have hcx := cx_cCheck1_ok
 unfold cCheck1_σ at hσ
 split at hσ
 ·
  rename_i x N L
  cases hσ
  refine ⟨by kernel_rfl, ?_⟩
  exact Sz hcx [] [] [] [] (Sq hcx [] [3] [0, 1] [] [(0 ≤ N ∧ N ≤ 65536)] (ap (by exact hp) az) (Zr (Ru hcx [])))
 ·
  cases hσ
def cx_ixCheck : Cx := ⟨tyCnf, [(62, cCheck1_σ)], false⟩
theorem cx_ixCheck_ok : CxOk Tryz.prog cx_ixCheck := cx_ok tyCnf_ok ⟨cCheck1_sound, trivial⟩
def ixCheck_σ : CtF
  | [.im (.ls (.ints s)), .clo 62 [.pto [.val (.int .i64 N), .ls (.intss L)]]], [] => some (s.length ≤ maxLen ∧ 0 ≤ N ∧ N ≤ 65536, .int (Cn.idxF (fun x => !(Cn.mayP x N)) s), [])
  | _, _ => none
theorem ixCheck_sound : Sound Tryz.prog 92 ixCheck_σ := by
 refine Sw (cx := cx_ixCheck) Tryz.f92 Tryz.func92 ?_
 intro wW wO wβ G0 args os p r outs hσ hp
 have hcx := cx_ixCheck_ok
 unfold ixCheck_σ at hσ
 split at hσ
 ·
  rename_i s N L
  cases hσ
  refine ⟨by kernel_rfl, ?_⟩
  obtain ⟨hm1, hpr⟩ := hp
  unfold maxLen at hm1
  refine Sz hcx [] [] [] [] (Zs (Sz hcx [] [7, 8] [] [] (Zb (Lp (X := Nat) (fun x0 => x0 ≤ s.length ∧ ∀ j, j < x0 → (!(Cn.mayP (s.getD j 0) N)) = false) (fun x0 => ([(0, .ints s), (1, .clo 62 [.pto [.int N, .ls (.intss L)]]), (7, .int (s.length : Int)), (8, .int (x0 : Int))], [])) (fun x0 => s.length - x0) (0) ?_ (Ex 8 (congrArg AV.int (show 0 = (0 : Int) from (by first | rfl | omega | (simp; done)))) Eb) Hb fun k hI => ?_))))
  ·
   exact ⟨Nat.zero_le _, fun j hj => by omega⟩
  ·
   try dsimp only at hI
   obtain ⟨hk, hok⟩ := hI
   refine Sz hcx [] [9] [] [] (Zs (Zj (p := ((k : Int) < (s.length : Int))) (fun h0 => ?_) fun h0 => ?_))
   ·
    refine Zk (Ft (Zs (Zb (Sz hcx [] [5] [9] [] (Sq hcx [] [16] [] [] [((0 : Int) ≤ (k : Int) ∧ (k : Int) < (s.length : Int)), (0 ≤ N ∧ N ≤ 65536)] ?_ (Zi (b := !(Cn.mayP (s.getD k 0) N)) (fun h1 => ?_) fun h1 => ?_))))))
    ·
     refine ap ?_ (ap ?_ az) <;>
      first | omega | exact id | exact vcNot | exact vcG | exact vcH | (intro _; omega) | exact (fun _ h => h) | (intro h; simp at h; omega) | (simp only [List.length_cons, List.length_nil, List.length_append, List.length_map, List.length_set, List.length_replicate]; omega) | (intro h; simp [h]; done) | exact hpr | trivial
    ·
     have hq := h1
     exact Sz hcx [] [4] [16, 5, 0, 1, 7, 8] [] (Zr (Fk (Fr (Fr (Fk (Fr (Rv hcx (congrArg AV.int (show (k : Int) = (Cn.idxF (fun x => !(Cn.mayP x N)) s) from (by exact (Cn.idxF_yes (p := (fun x => !(Cn.mayP x N))) (by omega) hok hq).symm))) [] rfl)))))))
    ·
     have hq := h1
     refine Zk (Fb (Ft (Tq hcx [] [8] [16, 5] [] [Fit ((k : Int) + 1)] ?_ (Lr (k + 1) ?_ ?_ (Ex 8 (congrArg AV.int (show ((k : Int) + 1) = ((k + 1) : Int) from (by first | rfl | omega | (simp; done)))) Eb) Hb))))
     ·
      refine ap ?_ az
      first | omega | exact id | exact vcNot | exact vcG | exact vcH | (intro _; omega) | exact (fun _ h => h) | (intro h; simp at h; omega) | (simp only [List.length_cons, List.length_nil, List.length_append, List.length_map, List.length_set, List.length_replicate]; omega) | (intro h; simp [h]; done) | exact hpr | trivial
     ·
      exact ⟨by omega, Cn.falseSucc hok hq⟩
     ·
      show s.length - (k + 1) < s.length - k
      omega
   ·
    exact Ze (Fe (Fe (Fs (Ft (Sz hcx [] [4] [9, 0, 1, 7, 8] [] (Zr (Rv hcx (congrArg AV.int (show (-1) = (Cn.idxF (fun x => !(Cn.mayP x N)) s) from (by exact (Cn.idxF_no (p := (fun x => !(Cn.mayP x N))) (Cn.all_mem (d := 0) (fun j hj => hok j (by omega)))).symm))) [] rfl)))))))
 ·
  cases hσ
def cx_ctCheck : Cx := ⟨tyCnf, [(92, (orF (coeF [.ld (.ints []), .id] ixHolds_σ) (coeF [.ld (.ints []), .id] ixCheck_σ)))], false⟩
theorem cx_ctCheck_ok : CxOk Tryz.prog cx_ctCheck := cx_ok tyCnf_ok ⟨((ixHolds_sound.coe [.ld (.ints []), .id] rfl).or (ixCheck_sound.coe [.ld (.ints []), .id] rfl)), trivial⟩
def ctCheck_σ : CtF
  | [.im (.ls (.ints s)), .clo 62 [.pto [.val (.int .i64 N), .ls (.intss L)]]], [] => some (s.length ≤ maxLen ∧ 0 ≤ N ∧ N ≤ 65536, .bool (s.any (fun x => !(Cn.mayP x N))), [])
  | _, _ => none
theorem ctCheck_sound : Sound Tryz.prog 61 ctCheck_σ := by
 refine Sw (cx := cx_ctCheck) Tryz.f61 Tryz.func61 ?_
 intro wW wO wβ G0 args os p r outs hσ hp
 have hcx := cx_ctCheck_ok
 unfold ctCheck_σ at hσ
 split at hσ
 ·
  rename_i s N L
  cases hσ
  refine ⟨by kernel_rfl, ?_⟩
  refine Sz hcx [] [] [] [] (Sq hcx [] [4] [0, 1] [] [(s.length ≤ maxLen ∧ 0 ≤ N ∧ N ≤ 65536)] ?_ (Zr (Rv hcx (congrArg AV.bool (show (decide ((Cn.idxF (fun x => !(Cn.mayP x N)) s) ≥ 0)) = (s.any (fun x => !(Cn.mayP x N))) from (by exact Cn.idxF_any (p := (fun x => !(Cn.mayP x N))) s))) [] rfl)))
  ·
   refine ap ?_ az
   first | exact hp | (intro h; exact h) | omega
 ·
  cases hσ
def cx_cCheck : Cx := ⟨tyCnf, [(61, (orF (coeF [.ld (.ints []), .id] ctHolds_σ) (coeF [.ld (.ints []), .id] ctCheck_σ)))], false⟩
theorem cx_cCheck_ok : CxOk Tryz.prog cx_cCheck := cx_ok tyCnf_ok ⟨((ctHolds_sound.coe [.ld (.ints []), .id] rfl).or (ctCheck_sound.coe [.ld (.ints []), .id] rfl)), trivial⟩
def cCheck_σ : CtF
  | [.agg [.im (.val (.int .i64 N)), .im (.ls (.intss L))]], [] => some (L.length ≤ maxLen ∧ ∀ l ∈ L, l.length ≤ maxLen, .int (Cn.chkV N L), [])
  | _, _ => none
theorem cCheck_sound : Sound Tryz.prog 27 cCheck_σ := by
 refine Sw (cx := cx_cCheck) Tryz.f27 Tryz.func27 ?_
 intro wW wO wβ G0 args os p r outs hσ hp
 have hcx := cx_cCheck_ok
 unfold cCheck_σ at hσ
 split at hσ
 ·
  rename_i N L
  cases hσ
  refine ⟨by kernel_rfl, ?_⟩
  obtain ⟨hm1, hm2⟩ := hp
  unfold maxLen at hm1
  refine Sz hcx [(1000, .frz)] [1] [0] [] (Zs (Sq hcx [] [12] [] [] [((!(decide (N < 0))) = true → ((!(decide (N < 0))) = true)), ((!(decide (N < 0))) = true → ((!(decide (N < 0))) = true)), ((decide (N < 0)) = false → (!(decide (N < 0))) = true)] ?_ (Zi (b := (decide (N < 0)) || (decide (N > 65536))) (fun h0 => ?_) fun h0 => ?_)))
  ·
   refine ap ?_ (ap ?_ (ap (by exact vcNot) az)) <;>
    first | omega | exact id | exact vcNot | exact vcG | exact vcH | (intro _; omega) | exact (fun _ h => h) | (intro h; simp at h; omega) | (simp only [List.length_cons, List.length_nil, List.length_append, List.length_map, List.length_set, List.length_replicate]; omega) | (intro h; simp [h]; done) | exact ⟨hm2 _ (Cn.getD_memL (by omega)), by omega, by omega⟩
  ·
   try simp only [Bool.or_eq_true, Bool.or_eq_false_iff, Bool.and_eq_true, Bool.and_eq_false_iff, Bool.not_eq_true', Bool.not_eq_false', decide_eq_true_eq, decide_eq_false_iff_not, bne_iff_ne, bne_eq_false_iff_eq, beq_iff_eq, beq_eq_false_iff_ne] at h0
   exact Sz hcx [] [2] [12, 1] [] (Zr (Fr (Rv hcx (congrArg AV.int (show 1 = (Cn.chkV N L) from (by exact (Cn.chk_arg (by omega)).symm))) [] rfl)))
  ·
   try simp only [Bool.or_eq_true, Bool.or_eq_false_iff, Bool.and_eq_true, Bool.and_eq_false_iff, Bool.not_eq_true', Bool.not_eq_false', decide_eq_true_eq, decide_eq_false_iff_not, bne_iff_ne, bne_eq_false_iff_eq, beq_iff_eq, beq_eq_false_iff_ne] at h0
   have hN : ¬ (N < 0 ∨ 65536 < N) := by omega
   refine Zk (Ft (Zs (Sz hcx [] [14, 15, 16] [12] [] (Zb (Lp (X := Nat) (fun x0 => x0 ≤ L.length ∧ ∀ j, j < x0 → Cn.badL N (L.getD j []) = false) (fun x0 => ([(1, .pto [.int N, .ls (.intss L)]), (14, .intss L), (15, .int (L.length : Int)), (16, .int (x0 : Int))], [])) (fun x0 => L.length - x0) (0) ?_ (Ex 16 (congrArg AV.int (show 0 = (0 : Int) from (by first | rfl | omega | (simp; done)))) Eb) Hb fun k hI => ?_)))))
   ·
    exact ⟨Nat.zero_le _, fun j hj => by omega⟩
   ·
    try dsimp only at hI
    obtain ⟨hk, hok⟩ := hI
    refine Sz hcx [] [17] [] [] (Zs (Zj (p := ((k : Int) < (L.length : Int))) (fun h1 => ?_) fun h1 => ?_))
    ·
     refine Zk (Ft (Zs (Zb (Sq hcx [] [4] [17] [] [((0 : Int) ≤ (k : Int) ∧ (k : Int) < (L.length : Int))] ?_ (Sq hcx [] [22] [4] [] [((L.getD k []).length ≤ maxLen ∧ 0 ≤ N ∧ N ≤ 65536)] ?_ (Zi (b := (L.getD k []).any (fun x => !(Cn.mayP x N))) (fun h2 => ?_) fun h2 => ?_))))))
     ·
      refine ap ?_ az
      first | omega | exact id | exact vcNot | exact vcG | exact vcH | (intro _; omega) | exact (fun _ h => h) | (intro h; simp at h; omega) | (simp only [List.length_cons, List.length_nil, List.length_append, List.length_map, List.length_set, List.length_replicate]; omega) | (intro h; simp [h]; done) | exact ⟨hm2 _ (Cn.getD_memL (by omega)), by omega, by omega⟩
     ·
      refine ap ?_ az
      first | omega | exact id | exact vcNot | exact vcG | exact vcH | (intro _; omega) | exact (fun _ h => h) | (intro h; simp at h; omega) | (simp only [List.length_cons, List.length_nil, List.length_append, List.length_map, List.length_set, List.length_replicate]; omega) | (intro h; simp [h]; done) | exact ⟨hm2 _ (Cn.getD_memL (by omega)), by omega, by omega⟩
     ·
      have hq := h2
      exact Sz hcx [] [2] [22, 1, 14, 15, 16] [] (Zr (Fk (Fr (Fr (Fk (Fr (Rv hcx (congrArg AV.int (show 1 = (Cn.chkV N L) from (by exact (Cn.chk_bad hN (by omega) hq).symm))) [] rfl)))))))
     ·
      have hq := h2
      refine Zk (Fb (Ft (Tq hcx [] [16] [22] [] [Fit ((k : Int) + 1)] ?_ (Lr (k + 1) ?_ ?_ (Ex 16 (congrArg AV.int (show ((k : Int) + 1) = ((k + 1) : Int) from (by first | rfl | omega | (simp; done)))) Eb) Hb))))
      ·
       refine ap ?_ az
       first | omega | exact id | exact vcNot | exact vcG | exact vcH | (intro _; omega) | exact (fun _ h => h) | (intro h; simp at h; omega) | (simp only [List.length_cons, List.length_nil, List.length_append, List.length_map, List.length_set, List.length_replicate]; omega) | (intro h; simp [h]; done) | exact ⟨hm2 _ (Cn.getD_memL (by omega)), by omega, by omega⟩
      ·
       exact ⟨by omega, Cn.falseSucc hok hq⟩
      ·
       show L.length - (k + 1) < L.length - k
       omega
    ·
     refine Ze (Fe (Fe (Fs (Ft (Zs (Sz hcx [] [27] [17, 1, 14, 15, 16] [] (Zj (p := ((L.length : Int) > 65536)) (fun h3 => ?_) fun h3 => ?_)))))))
     ·
      have hc := Cn.chk_ok hN (fun j hj => hok j (by omega))
      exact Sz hcx [] [2] [27] [] (Zr (Fr (Rv hcx (congrArg AV.int (show 2 = (Cn.chkV N L) from (by rw [hc, if_pos (by omega)]))) [] rfl)))
     ·
      have hc := Cn.chk_ok hN (fun j hj => hok j (by omega))
      exact Zk (Ft (Sz hcx [] [2] [27] [] (Zr (Rv hcx (congrArg AV.int (show 0 = (Cn.chkV N L) from (by rw [hc, if_neg (by omega)]))) [] rfl))))
 ·
  cases hσ
def cx_sIndex : Cx := ⟨tyCnf, [], false⟩
theorem cx_sIndex_ok : CxOk Tryz.prog cx_sIndex := cx_ok tyCnf_ok trivial
def sIndex_σ : CtF
  | [.im (.ls (.ints s)), .im (.val (.int .i64 v))], [] => some (s.length ≤ maxLen, .int (Cn.idxF (fun x => v == x) s), [])
  | _, _ => none
theorem sIndex_sound : Sound Tryz.prog 78 sIndex_σ := by
 refine Sw (cx := cx_sIndex) Tryz.f78 Tryz.func78 ?_
 intro wW wO wβ G0 args os p r outs hσ hp
 have hcx := cx_sIndex_ok
 unfold sIndex_σ at hσ
 split at hσ
 ·
  rename_i s v
  cases hσ
  refine ⟨by kernel_rfl, ?_⟩
  have hm1 := hp
  unfold maxLen at hm1
  refine Sz hcx [] [] [] [] (Zs (Sz hcx [] [7, 8] [] [] (Zb (Lp (X := Nat) (fun x0 => x0 ≤ s.length ∧ ∀ j, j < x0 → ((v == (s.getD j 0))) = false) (fun x0 => ([(0, .ints s), (1, .int v), (7, .int (s.length : Int)), (8, .int (x0 : Int))], [])) (fun x0 => s.length - x0) (0) ?_ (Ex 8 (congrArg AV.int (show 0 = (0 : Int) from (by first | rfl | omega | (simp; done)))) Eb) Hb fun k hI => ?_))))
  ·
   exact ⟨Nat.zero_le _, fun j hj => by omega⟩
  ·
   try dsimp only at hI
   obtain ⟨hk, hok⟩ := hI
   refine Sz hcx [] [9] [] [] (Zs (Zj (p := ((k : Int) < (s.length : Int))) (fun h0 => ?_) fun h0 => ?_))
   ·
    refine Zk (Ft (Zs (Zb (Sz hcx [] [5] [9] [] (Sq hcx [] [16] [] [] [((0 : Int) ≤ (k : Int) ∧ (k : Int) < (s.length : Int))] (ap (by omega) az) (Zi (b := v == (s.getD k 0)) (fun h1 => ?_) fun h1 => ?_))))))
    ·
     have hq := h1
     exact Sz hcx [] [4] [16, 5, 0, 1, 7, 8] [] (Zr (Fk (Fr (Fr (Fk (Fr (Rv hcx (congrArg AV.int (show (k : Int) = (Cn.idxF (fun x => v == x) s) from (by exact (Cn.idxF_yes (p := fun x => v == x) (by omega) hok hq).symm))) [] rfl)))))))
    ·
     have hq := h1
     refine Zk (Fb (Ft (Tq hcx [] [8] [16, 5] [] [Fit ((k : Int) + 1)] (ap (by omega) az) (Lr (k + 1) ?_ ?_ (Ex 8 (congrArg AV.int (show ((k : Int) + 1) = ((k + 1) : Int) from (by first | rfl | omega | (simp; done)))) Eb) Hb))))
     ·
      exact ⟨by omega, Cn.falseSucc hok hq⟩
     ·
      show s.length - (k + 1) < s.length - k
      omega
   ·
    exact Ze (Fe (Fe (Fs (Ft (Sz hcx [] [4] [9, 0, 1, 7, 8] [] (Zr (Rv hcx (congrArg AV.int (show (-1) = (Cn.idxF (fun x => v == x) s) from (by exact (Cn.idxF_no (p := fun x => v == x) (Cn.all_mem (d := 0) (fun j hj => hok j (by omega)))).symm))) [] rfl)))))))
 ·
  cases hσ
def cx_sContains : Cx := ⟨tyCnf, [(78, (coeF [.ld (.ints []), .id] sIndex_σ))], false⟩
theorem cx_sContains_ok : CxOk Tryz.prog cx_sContains := cx_ok tyCnf_ok ⟨(sIndex_sound.coe [.ld (.ints []), .id] rfl), trivial⟩
def sContains_σ : CtF
  | [.im (.ls (.ints s)), .im (.val (.int .i64 v))], [] => some (s.length ≤ maxLen, .bool (s.contains v), [])
  | _, _ => none
theorem sContains_sound : Sound Tryz.prog 44 sContains_σ := by
 refine Sw (cx := cx_sContains) Tryz.f44 Tryz.func44 ?_
 intro wW wO wβ G0 args os p r outs hσ hp
 have hcx := cx_sContains_ok
 unfold sContains_σ at hσ
 split at hσ
 ·
  rename_i s v
  cases hσ
  refine ⟨by kernel_rfl, ?_⟩
  refine Sz hcx [] [] [] [] (Sq hcx [] [4] [0, 1] [] [(s.length ≤ maxLen)] ?_ (Zr (Rv hcx (congrArg AV.bool (show (decide ((Cn.idxF (fun x => v == x) s) ≥ 0)) = (s.contains v) from (by rw [show (decide ((Cn.idxF (fun x => v == x) s) ≥ 0)) = s.any (fun x => v == x) from Cn.idxF_any (p := fun x => v == x) s]; exact List.any_beq))) [] rfl)))
  ·
   refine ap ?_ az
   first | exact hp
 ·
  cases hσ
end Go.Proofs.YtbpbndlgfiammaaGreatDoor.En
