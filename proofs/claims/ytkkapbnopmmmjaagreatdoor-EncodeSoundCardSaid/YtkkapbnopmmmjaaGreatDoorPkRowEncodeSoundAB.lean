/- Lemmas and contracts for the row. -/
import Derived.Test.YtkkapbnopmmmjaaGreatDoorPkRowEncodeSoundY
import Derived.Test.YtkkapbnopmmmjaaGreatDoorPkRowEncodeSoundL
import Derived.Test.YtkkapbnopmmmjaaGreatDoorProg
set_option linter.unusedVariables false
set_option linter.unusedSimpArgs false
set_option linter.unnecessarySimpa false
namespace Go.Proofs.YtkkapbnopmmmjaaGreatDoor.En
open Go Go.RowKit
def tySnd : List (Nat × TD) := [(3, ⟨1, false, [.int .i64 0], [], none, 8, false, 1, 1⟩),
  (4, ⟨1, false, [.bool false], [], none, 1, true, 0, 2⟩),
  (22, ⟨1, false, [.slice none 0 0], [], some 3, 24, false, 0, 3⟩),
  (35, ⟨1, false, [.slice none 0 0], [], some 4, 24, false, 0, 0⟩),
  (88, ⟨1, false, [.nilFunc], [], none, 8, false, 0, 0⟩),
  (90, ⟨1, false, [.int .i64 0], [], none, 8, false, 1, 1⟩)]
theorem tySnd_ok : AllTy Tryz.prog tySnd := ⟨⟨by kernel_rfl, by kernel_rfl, by kernel_rfl⟩, ⟨by kernel_rfl, by kernel_rfl, by kernel_rfl⟩, ⟨by kernel_rfl, by kernel_rfl, by kernel_rfl⟩, ⟨by kernel_rfl, by kernel_rfl, by kernel_rfl⟩, ⟨by kernel_rfl, by kernel_rfl, by kernel_rfl⟩, ⟨by kernel_rfl, by kernel_rfl, by kernel_rfl⟩, trivial⟩
def cx_cMay : Cx := ⟨tySnd, [], false⟩
theorem cx_cMay_ok : CxOk Tryz.prog cx_cMay := cx_ok tySnd_ok trivial
def cMay_σ : CtF
  | [.im (.val (.int .i64 l)), .im (.val (.int .i64 n))], [] => some (0 ≤ n ∧ n ≤ 65536, .bool (Cn.mayP l n), [])
  | _, _ => none
theorem cMay_sound : Sound Tryz.prog 102 cMay_σ := by
 refine Sw (cx := cx_cMay) Tryz.f102 Tryz.func102 ?_
 intro wW wO wβ G0 args os p r outs hσ hp
 have hcx := cx_cMay_ok
 unfold cMay_σ at hσ
 split at hσ
 ·
  rename_i l n
  cases hσ
  refine ⟨by kernel_rfl, ?_⟩
  obtain ⟨hn0, hn1⟩ := hp
  refine Sz hcx [] [] [] [] (Sq hcx [] [4] [0, 1] [] [((l != 0) = true → ((l != 0) = true)), ((l != 0) = true → Fit (-n)), ((l != 0) = true → ((l != 0) = true)), ((l != 0) = true → ((l != 0) = true)), ((l != 0) = true → (l != 0) = true), (((l != 0) && (decide ((-n) ≤ l))) = true → (((l != 0) && (decide ((-n) ≤ l))) = true)), (((l != 0) && (decide ((-n) ≤ l))) = true → (((l != 0) && (decide ((-n) ≤ l))) = true)), (((l != 0) && (decide ((-n) ≤ l))) = true → ((l != 0) && (decide ((-n) ≤ l))) = true)] ?_ (Zr (Ru hcx [])))
  ·
   refine ap ?_ (ap ?_ (ap ?_ (ap ?_ (ap (by exact id) (ap ?_ (ap ?_ (ap (by exact id) az))))))) <;>
    first | omega | exact id | exact vcNot | exact vcG | exact vcH | (intro _; omega) | exact (fun _ h => h) | (intro h; simp at h; omega) | (simp only [List.length_cons, List.length_nil, List.length_append, List.length_map, List.length_set, List.length_replicate]; omega) | (intro h; simp [h]; done) | (intro _; constructor <;> omega)
 ·
  cases hσ
def cx_cOf : Cx := ⟨tySnd, [], false⟩
theorem cx_cOf_ok : CxOk Tryz.prog cx_cOf := cx_ok tySnd_ok trivial
def cOf_σ : CtF
  | [.im (.val (.int .i64 l))], [] => some (-9223372036854775807 ≤ l ∧ l ≤ 9223372036854775807, .int (l.natAbs : Int), [])
  | _, _ => none
theorem cOf_sound : Sound Tryz.prog 103 cOf_σ := by
 refine Sw (cx := cx_cOf) Tryz.f103 Tryz.func103 ?_
 intro wW wO wβ G0 args os p r outs hσ hp
 have hcx := cx_cOf_ok
 unfold cOf_σ at hσ
 split at hσ
 ·
  rename_i l
  cases hσ
  refine ⟨by kernel_rfl, ?_⟩
  obtain ⟨hn0, hn1⟩ := hp
  refine Sz hcx [] [] [] [] (Sq hcx [] [2] [0] [] [Fit (-l)] ?_ (Zr (Rv hcx (congrArg AV.int (show (max l (-l)) = (l.natAbs : Int) from (by omega))) [] rfl)))
  ·
   refine ap ?_ az
   first | omega | exact id | exact vcNot | exact vcG | exact vcH | (intro _; omega) | exact (fun _ h => h) | (intro h; simp at h; omega) | (simp only [List.length_cons, List.length_nil, List.length_append, List.length_map, List.length_set, List.length_replicate]; omega) | (intro h; simp [h]; done) | (constructor <;> omega)
 ·
  cases hσ
def cx_cTrue : Cx := ⟨tySnd, [(102, cMay_σ), (103, cOf_σ)], false⟩
theorem cx_cTrue_ok : CxOk Tryz.prog cx_cTrue := cx_ok tySnd_ok ⟨cMay_sound, cOf_sound, trivial⟩
def cTrue_σ : CtF
  | [.im (.val (.int .i64 l)), .im (.ls (.bools a))], [] => some (a.length ≤ maxLen, .bool (Cn.litV a l), [])
  | _, _ => none
theorem cTrue_sound : Sound Tryz.prog 58 cTrue_σ := by
 refine Sw (cx := cx_cTrue) Tryz.f58 Tryz.func58 ?_
 intro wW wO wβ G0 args os p r outs hσ hp
 have hcx := cx_cTrue_ok
 unfold cTrue_σ at hσ
 split at hσ
 ·
  rename_i l a
  cases hσ
  refine ⟨by kernel_rfl, ?_⟩
  unfold maxLen at hp
  refine Sz hcx [] [] [] [] (Zs (Sq hcx [] [8] [] [] [(0 ≤ (65536 : Int) ∧ (65536 : Int) ≤ 65536)] ?_ (Zi (b := !(Cn.mayP l (65536 : Int))) (fun h0 => ?_) fun h0 => ?_)))
  ·
   refine ap ?_ az
   first | omega | exact id | exact vcNot | exact vcG | exact vcH | (intro _; omega) | exact (fun _ h => h) | (intro h; simp at h; omega) | (simp only [List.length_cons, List.length_nil, List.length_append, List.length_map, List.length_set, List.length_replicate]; omega) | (intro h; simp [h]; done) | (constructor <;> omega) | trivial
  ·
   replace h0 := (notB_t h0)
   exact Sz hcx [] [4] [8, 0, 1] [] (Zr (Fr (Rv hcx (congrArg AV.bool (show false = (Cn.litV a l) from (by exact (Cn.litV_no h0).symm))) [] rfl)))
  ·
   replace h0 := (notB_f h0)
   have hmb := Cn.mayP_iff.1 h0
   refine Zk (Ft (Sq hcx [] [5] [8] [] [(-9223372036854775807 ≤ l ∧ l ≤ 9223372036854775807)] ?_ (Sq hcx [] [4] [5, 0, 1] [] [((decide ((l.natAbs : Int) < (a.length : Int))) = true → ((decide ((l.natAbs : Int) < (a.length : Int))) = true)), ((decide ((l.natAbs : Int) < (a.length : Int))) = true → ((decide ((l.natAbs : Int) < (a.length : Int))) = true)), ((decide ((l.natAbs : Int) < (a.length : Int))) = true → ((0 : Int) ≤ (l.natAbs : Int) ∧ (l.natAbs : Int) < (a.length : Int))), ((decide ((l.natAbs : Int) < (a.length : Int))) = true → ((decide ((l.natAbs : Int) < (a.length : Int))) = true)), ((decide ((l.natAbs : Int) < (a.length : Int))) = true → (decide ((l.natAbs : Int) < (a.length : Int))) = true)] ?_ (Zr (Rv hcx (congrArg AV.bool (show (((decide ((l.natAbs : Int) < (a.length : Int))) && (a.getD ((l.natAbs : Int).toNat) false)) == (decide (l > 0))) = (Cn.litV a l) from (by exact (Cn.litV_yes h0).symm))) [] rfl)))))
   ·
    refine ap ?_ az
    first | omega | exact id | exact vcNot | exact vcG | exact vcH | (intro _; omega) | exact (fun _ h => h) | (intro h; simp at h; omega) | (simp only [List.length_cons, List.length_nil, List.length_append, List.length_map, List.length_set, List.length_replicate]; omega) | (intro h; simp [h]; done) | (constructor <;> omega) | trivial
   ·
    refine ap ?_ (ap ?_ (ap ?_ (ap ?_ (ap (by exact id) az)))) <;>
     first | omega | exact id | exact vcNot | exact vcG | exact vcH | (intro _; omega) | exact (fun _ h => h) | (intro h; simp at h; omega) | (simp only [List.length_cons, List.length_nil, List.length_append, List.length_map, List.length_set, List.length_replicate]; omega) | (intro h; simp [h]; done) | (constructor <;> omega) | trivial
 ·
  cases hσ
def cx_cHolds1 : Cx := ⟨tySnd, [(58, (coeF [.id, .ld (.bools [])] cTrue_σ))], false⟩
theorem cx_cHolds1_ok : CxOk Tryz.prog cx_cHolds1 := cx_ok tySnd_ok ⟨(cTrue_sound.coe [.id, .ld (.bools [])] rfl), trivial⟩
def cHolds1_σ : CtF
  | [.im (.val (.int .i64 x)), .pto [.ls (.bools a)]], [] => some (a.length ≤ maxLen, .bool (Cn.litV a x), [])
  | _, _ => none
theorem cHolds1_sound : Sound Tryz.prog 57 cHolds1_σ := by
 refine Sw (cx := cx_cHolds1) Tryz.f57 Tryz.func57 ?_
 intro wW wO wβ G0 args os p r outs hσ hp
 have hcx := cx_cHolds1_ok
 unfold cHolds1_σ at hσ
 split at hσ
 ·
  rename_i x a
  cases hσ
  refine ⟨by kernel_rfl, ?_⟩
  exact Sz hcx [] [] [] [] (Sq hcx [] [3] [0, 1] [] [(a.length ≤ maxLen)] (ap (by exact hp) az) (Zr (Ru hcx [])))
 ·
  cases hσ
def cx_ixHolds : Cx := ⟨tySnd, [(57, cHolds1_σ)], false⟩
theorem cx_ixHolds_ok : CxOk Tryz.prog cx_ixHolds := cx_ok tySnd_ok ⟨cHolds1_sound, trivial⟩
def ixHolds_σ : CtF
  | [.im (.ls (.ints s)), .clo 57 [.pto [.ls (.bools a)]]], [] => some (s.length ≤ maxLen ∧ a.length ≤ maxLen, .int (Cn.idxF (fun x => Cn.litV a x) s), [])
  | _, _ => none
theorem ixHolds_sound : Sound Tryz.prog 101 ixHolds_σ := by
 refine Sw (cx := cx_ixHolds) Tryz.f101 Tryz.func101 ?_
 intro wW wO wβ G0 args os p r outs hσ hp
 have hcx := cx_ixHolds_ok
 unfold ixHolds_σ at hσ
 split at hσ
 ·
  rename_i s a
  cases hσ
  refine ⟨by kernel_rfl, ?_⟩
  obtain ⟨hm1, hpr⟩ := hp
  unfold maxLen at hm1
  refine Sz hcx [] [] [] [] (Zs (Sz hcx [] [7, 8] [] [] (Zb (Lp (X := Nat) (fun x0 => x0 ≤ s.length ∧ ∀ j, j < x0 → (Cn.litV a (s.getD j 0)) = false) (fun x0 => ([(0, .ints s), (1, .clo 57 [.pto [.ls (.bools a)]]), (7, .int (s.length : Int)), (8, .int (x0 : Int))], [])) (fun x0 => s.length - x0) (0) ?_ (Ex 8 (congrArg AV.int (show 0 = (0 : Int) from (by first | rfl | omega | (simp; done)))) Eb) Hb fun k hI => ?_))))
  ·
   exact ⟨Nat.zero_le _, fun j hj => by omega⟩
  ·
   try dsimp only at hI
   obtain ⟨hk, hok⟩ := hI
   refine Sz hcx [] [9] [] [] (Zs (Zj (p := ((k : Int) < (s.length : Int))) (fun h0 => ?_) fun h0 => ?_))
   ·
    refine Zk (Ft (Zs (Zb (Sz hcx [] [5] [9] [] (Sq hcx [] [16] [] [] [((0 : Int) ≤ (k : Int) ∧ (k : Int) < (s.length : Int)), (a.length ≤ maxLen)] ?_ (Zi (b := Cn.litV a (s.getD k 0)) (fun h1 => ?_) fun h1 => ?_))))))
    ·
     refine ap ?_ (ap ?_ az) <;>
      first | omega | exact id | exact vcNot | exact vcG | exact vcH | (intro _; omega) | exact (fun _ h => h) | (intro h; simp at h; omega) | (simp only [List.length_cons, List.length_nil, List.length_append, List.length_map, List.length_set, List.length_replicate]; omega) | (intro h; simp [h]; done) | exact hpr | trivial
    ·
     have hq := h1
     exact Sz hcx [] [4] [16, 5, 0, 1, 7, 8] [] (Zr (Fk (Fr (Fr (Fk (Fr (Rv hcx (congrArg AV.int (show (k : Int) = (Cn.idxF (fun x => Cn.litV a x) s) from (by exact (Cn.idxF_yes (p := (fun x => Cn.litV a x)) (by omega) hok hq).symm))) [] rfl)))))))
    ·
     have hq := h1
     refine Zk (Fb (Ft (Tq hcx [] [8] [16, 5] [] [Fit ((k : Int) + 1)] ?_ (Lr (k + 1) ?_ ?_ (Ex 8 (congrArg AV.int (show ((k : Int) + 1) = ((k + 1) : Int) from (by first | rfl | omega | (simp; done)))) Eb) Hb))))
     ·
      refine ap ?_ az
      first | omega | exact id | exact vcNot | exact vcG | exact vcH | (intro _; omega) | exact (fun _ h => h) | (intro h; simp at h; omega) | (simp only [List.length_cons, List.length_nil, List.length_append, List.length_map, List.length_set, List.length_replicate]; omega) | (intro h; simp [h]; done) | exact hpr | trivial
     ·
      exact ⟨by omega, Cn.falseSucc hok hq⟩
     ·
      show s.length - (k + 1) < s.length - k
      omega
   ·
    exact Ze (Fe (Fe (Fs (Ft (Sz hcx [] [4] [9, 0, 1, 7, 8] [] (Zr (Rv hcx (congrArg AV.int (show (-1) = (Cn.idxF (fun x => Cn.litV a x) s) from (by exact (Cn.idxF_no (p := (fun x => Cn.litV a x)) (Cn.all_mem (d := 0) (fun j hj => hok j (by omega)))).symm))) [] rfl)))))))
 ·
  cases hσ
def cx_ctHolds : Cx := ⟨tySnd, [(101, (coeF [.ld (.ints []), .id] ixHolds_σ))], false⟩
theorem cx_ctHolds_ok : CxOk Tryz.prog cx_ctHolds := cx_ok tySnd_ok ⟨(ixHolds_sound.coe [.ld (.ints []), .id] rfl), trivial⟩
def ctHolds_σ : CtF
  | [.im (.ls (.ints s)), .clo 57 [.pto [.ls (.bools a)]]], [] => some (s.length ≤ maxLen ∧ a.length ≤ maxLen, .bool (s.any (fun x => Cn.litV a x)), [])
  | _, _ => none
theorem ctHolds_sound : Sound Tryz.prog 56 ctHolds_σ := by
 refine Sw (cx := cx_ctHolds) Tryz.f56 Tryz.func56 ?_
 intro wW wO wβ G0 args os p r outs hσ hp
 have hcx := cx_ctHolds_ok
 unfold ctHolds_σ at hσ
 split at hσ
 ·
  rename_i s a
  cases hσ
  refine ⟨by kernel_rfl, ?_⟩
  refine Sz hcx [] [] [] [] (Sq hcx [] [4] [0, 1] [] [(s.length ≤ maxLen ∧ a.length ≤ maxLen)] ?_ (Zr (Rv hcx (congrArg AV.bool (show (decide ((Cn.idxF (fun x => Cn.litV a x) s) ≥ 0)) = (s.any (fun x => Cn.litV a x)) from (by exact Cn.idxF_any (p := (fun x => Cn.litV a x)) s))) [] rfl)))
  ·
   refine ap ?_ az
   first | exact hp | (intro h; exact h) | omega
 ·
  cases hσ
def cx_cHolds : Cx := ⟨tySnd, [(56, (coeF [.ld (.ints []), .id] ctHolds_σ))], false⟩
theorem cx_cHolds_ok : CxOk Tryz.prog cx_cHolds := cx_ok tySnd_ok ⟨(ctHolds_sound.coe [.ld (.ints []), .id] rfl), trivial⟩
def cHolds_σ : CtF
  | [.im (.ls (.ints l)), .im (.ls (.bools a))], [] => some (l.length ≤ maxLen ∧ a.length ≤ maxLen, .bool (Cn.holdsV a l), [])
  | _, _ => none
theorem cHolds_sound : Sound Tryz.prog 24 cHolds_σ := by
 refine Sw (cx := cx_cHolds) Tryz.f24 Tryz.func24 ?_
 intro wW wO wβ G0 args os p r outs hσ hp
 have hcx := cx_cHolds_ok
 unfold cHolds_σ at hσ
 split at hσ
 ·
  rename_i l a
  cases hσ
  refine ⟨by kernel_rfl, ?_⟩
  exact Sz hcx [(1000, .frz)] [3] [1] [] (Sq hcx [] [4] [3, 0] [] [(l.length ≤ maxLen ∧ a.length ≤ maxLen)] (ap (by exact hp) az) (Zr (Ru hcx [])))
 ·
  cases hσ
def cx_lPadded : Cx := ⟨tySnd, [], false⟩
theorem cx_lPadded_ok : CxOk Tryz.prog cx_lPadded := cx_ok tySnd_ok trivial
def lPadded_σ : CtF
  | [.im (.ls (.bools a)), .im (.val (.int .i64 n))], [] => some (a.length ≤ maxLen ∧ 0 ≤ n ∧ n ≤ 1000000, .row 0, [some (.row 4 (.bools (Cn.padL a n)))])
  | _, _ => none
theorem lPadded_sound : Sound Tryz.prog 17 lPadded_σ := by
 refine Sw (cx := cx_lPadded) Tryz.f17 Tryz.func17 ?_
 intro wW wO wβ G0 args os p r outs hσ hp
 have hcx := cx_lPadded_ok
 unfold lPadded_σ at hσ
 split at hσ
 ·
  rename_i a n
  cases hσ
  refine ⟨by kernel_rfl, ?_⟩
  obtain ⟨hm1, hn0, hn1⟩ := hp
  unfold maxLen at hm1
  refine Sz hcx [] [] [] [] (Sq hcx [(1002, .to 209)] [5] [] [] [Fit (n + 1), ((0 : Int) ≤ (n + 1) ∧ (n + 1) ≤ ((n + 1) : Int) ∧ (n + 1).toNat * 1 ≤ 140737488355328)] ?_ (Zs (Sz hcx [] [6] [] [] (Zb (Zn [(209, .to 700)] [0, 1, 5, 6] (Lp (X := Nat) (fun x0 => (x0 : Int) ≤ n) (fun x0 => ([(0, .bools a), (1, .int n), (5, .row 700), (6, .int ((x0 : Int) + 1))], [(700, .row 4 (.bools (Cn.padK a n x0)))])) (fun x0 => n.toNat - x0) (0) ?_ Eb (Hx 700 (congrArg (fun x => AObj.row 4 (.bools x)) (show (List.replicate (n + 1).toNat false) = (Cn.padK a n 0) from (by exact Cn.padK_0 (by omega)))) Hb) fun i hI => ?_))))))
  ·
   refine ap ?_ (ap ?_ az) <;>
    first | omega | exact id | exact vcNot | exact vcG | exact vcH | (intro _; omega) | exact (fun _ h => h) | (intro h; simp at h; omega) | (simp only [List.length_cons, List.length_nil, List.length_append, List.length_map, List.length_set, List.length_replicate]; omega) | (intro h; simp [h]; done) | (unfold maxLen; omega) | (constructor <;> omega) | (intro _; constructor <;> omega) | (intro _; omega) | done
  ·
   show (0 : Int) ≤ n
   omega
  ·
   replace hI : (i : Int) ≤ n := hI
   have hpl := Cn.padK_len (a := a) (n := n) (i := i)
   refine Zs (Sq hcx [] [18] [] [] [((decide (((i : Int) + 1) ≤ n)) = true → ((decide (((i : Int) + 1) ≤ n)) = true)), ((decide (((i : Int) + 1) ≤ n)) = true → ((decide (((i : Int) + 1) ≤ n)) = true)), ((decide (((i : Int) + 1) ≤ n)) = true → ((decide (((i : Int) + 1) ≤ n)) = true)), ((decide (((i : Int) + 1) ≤ n)) = true → (decide (((i : Int) + 1) ≤ n)) = true)] ?_ (Zi (b := (decide (((i : Int) + 1) ≤ n)) && (decide (((i : Int) + 1) < (a.length : Int)))) (fun h0 => ?_) fun h0 => ?_))
   ·
    refine ap ?_ (ap ?_ (ap ?_ (ap (by exact id) az))) <;>
     first | omega | exact id | exact vcNot | exact vcG | exact vcH | (intro _; omega) | exact (fun _ h => h) | (intro h; simp at h; omega) | (simp only [List.length_cons, List.length_nil, List.length_append, List.length_map, List.length_set, List.length_replicate]; omega) | (intro h; simp [h]; done) | (unfold maxLen; omega) | (constructor <;> omega) | (intro _; constructor <;> omega) | (intro _; omega) | done
   ·
    try simp only [Bool.or_eq_true, Bool.or_eq_false_iff, Bool.and_eq_true, Bool.and_eq_false_iff, Bool.not_eq_true', Bool.not_eq_false', decide_eq_true_eq, decide_eq_false_iff_not, bne_iff_ne, bne_eq_false_iff_eq, beq_iff_eq, beq_eq_false_iff_ne] at h0
    have h18_ : (i : Int) + 1 ≤ n ∧ (i : Int) + 1 < a.length := by have := h0; omega
    refine Zk (Ft (Zs (Zb (Tq hcx [(700, .to 700)] [] [18] [] [((0 : Int) ≤ ((i : Int) + 1) ∧ ((i : Int) + 1) < (a.length : Int)), ((0 : Int) ≤ ((i : Int) + 1) ∧ ((i : Int) + 1) < ((Cn.padK a n i).length : Int)), ((((i : Int) + 1).toNat) < (Cn.padK a n i).length)] ?_ (Fb (Ft (Tq hcx [] [6] [] [] [Fit (((i : Int) + 1) + 1)] ?_ (Lr (i + 1) ?_ ?_ (Ex 6 (congrArg AV.int (show (((i : Int) + 1) + 1) = (((i + 1) : Int) + 1) from (by omega))) Eb) (Hx 700 (congrArg (fun x => AObj.row 4 (.bools x)) (show ((Cn.padK a n i).set (((i : Int) + 1).toNat) (a.getD (((i : Int) + 1).toNat) false)) = (Cn.padK a n (i + 1)) from (by exact Cn.padK_next (by omega)))) Hb)))))))))
    ·
     refine ap ?_ (ap ?_ (ap ?_ az)) <;>
      first | omega | exact id | exact vcNot | exact vcG | exact vcH | (intro _; omega) | exact (fun _ h => h) | (intro h; simp at h; omega) | (simp only [List.length_cons, List.length_nil, List.length_append, List.length_map, List.length_set, List.length_replicate]; omega) | (intro h; simp [h]; done) | (unfold maxLen; omega) | (constructor <;> omega) | (intro _; constructor <;> omega) | (intro _; omega) | done
    ·
     refine ap ?_ az
     first | omega | exact id | exact vcNot | exact vcG | exact vcH | (intro _; omega) | exact (fun _ h => h) | (intro h; simp at h; omega) | (simp only [List.length_cons, List.length_nil, List.length_append, List.length_map, List.length_set, List.length_replicate]; omega) | (intro h; simp [h]; done) | (unfold maxLen; omega) | (constructor <;> omega) | (intro _; constructor <;> omega) | (intro _; omega) | done
    ·
     show ((i + 1) : Int) ≤ n
     omega
    ·
     show n.toNat - (i + 1) < n.toNat - i
     omega
   ·
    try simp only [Bool.or_eq_true, Bool.or_eq_false_iff, Bool.and_eq_true, Bool.and_eq_false_iff, Bool.not_eq_true', Bool.not_eq_false', decide_eq_true_eq, decide_eq_false_iff_not, bne_iff_ne, bne_eq_false_iff_eq, beq_iff_eq, beq_eq_false_iff_ne] at h0
    have h18_ : ¬ ((i : Int) + 1 ≤ n ∧ (i : Int) + 1 < a.length) := by have := h0; omega
    exact Ze (Fe (Fe (Fs (Ft (Sz hcx [] [4] [18, 0, 1, 5, 6] [] (Zr (Fn [(700, .to 0)] [4] (Rv hcx rfl [true] (consO (congrArg some (congrArg (fun x => AObj.row 4 (.bools x)) (show (Cn.padK a n i) = (Cn.padL a n) from (by exact Cn.padK_all h18_)))) rfl)))))))))
 ·
  cases hσ
def cx_lLit : Cx := ⟨tySnd, [], false⟩
theorem cx_lLit_ok : CxOk Tryz.prog cx_lLit := cx_ok tySnd_ok trivial
def lLit_σ : CtF
  | [.im (.val (.int .i64 x)), .im (.ls (.bools a))], [] => some (-9223372036854775807 ≤ x ∧ x ≤ 9223372036854775807, .bool (Cn.litW a x), [])
  | _, _ => none
theorem lLit_sound : Sound Tryz.prog 18 lLit_σ := by
 refine Sw (cx := cx_lLit) Tryz.f18 Tryz.func18 ?_
 intro wW wO wβ G0 args os p r outs hσ hp
 have hcx := cx_lLit_ok
 unfold lLit_σ at hσ
 split at hσ
 ·
  rename_i x a
  cases hσ
  refine ⟨by kernel_rfl, ?_⟩
  obtain ⟨hx1, hx2⟩ := hp
  refine Sz hcx [] [] [] [] (Zs (Sz hcx [] [6] [] [] (Zj (p := (x < 0)) (fun h0 => ?_) fun h0 => ?_)))
  ·
   have h6_ := h0
   refine Sq hcx [] [4] [6, 0, 1] [] [Fit (-x), ((decide ((-x) < (a.length : Int))) = true → ((decide ((-x) < (a.length : Int))) = true)), ((decide ((-x) < (a.length : Int))) = true → Fit (-x)), ((decide ((-x) < (a.length : Int))) = true → ((decide ((-x) < (a.length : Int))) = true)), ((decide ((-x) < (a.length : Int))) = true → ((decide ((-x) < (a.length : Int))) = true)), ((decide ((-x) < (a.length : Int))) = true → ((0 : Int) ≤ (-x) ∧ (-x) < (a.length : Int))), ((decide ((-x) < (a.length : Int))) = true → ((decide ((-x) < (a.length : Int))) = true)), ((decide ((-x) < (a.length : Int))) = true → ((decide ((-x) < (a.length : Int))) = true)), ((decide ((-x) < (a.length : Int))) = true → (decide ((-x) < (a.length : Int))) = true)] ?_ (Zr (Fr (Rv hcx (congrArg AV.bool (show ((decide ((-x) < (a.length : Int))) && (!(a.getD ((-x).toNat) false))) = (Cn.litW a x) from (by first | exact (Cn.litW_n h6_).symm | exact (Cn.litW_p h6_).symm))) [] rfl)))
   ·
    refine ap ?_ (ap ?_ (ap ?_ (ap ?_ (ap ?_ (ap ?_ (ap ?_ (ap ?_ (ap (by exact id) az)))))))) <;>
     first | omega | exact id | exact vcNot | exact vcG | exact vcH | (intro _; omega) | exact (fun _ h => h) | (intro h; simp at h; omega) | (simp only [List.length_cons, List.length_nil, List.length_append, List.length_map, List.length_set, List.length_replicate]; omega) | (intro h; simp [h]; done) | (constructor <;> omega) | (intro _; constructor <;> omega) | (intro hg; simp only [Bool.and_eq_true, decide_eq_true_eq] at hg; omega) | (intro hg; simp only [Bool.and_eq_true, decide_eq_true_eq] at hg; constructor <;> omega) | done
  ·
   have h6_ := h0
   refine Zk (Ft (Sq hcx [] [4] [6, 0, 1] [] [((decide (x > 0)) = true → ((decide (x > 0)) = true)), ((decide (x > 0)) = true → ((decide (x > 0)) = true)), ((decide (x > 0)) = true → ((decide (x > 0)) = true)), ((decide (x > 0)) = true → (decide (x > 0)) = true), (((decide (x > 0)) && (decide (x < (a.length : Int)))) = true → (((decide (x > 0)) && (decide (x < (a.length : Int)))) = true)), (((decide (x > 0)) && (decide (x < (a.length : Int)))) = true → (((decide (x > 0)) && (decide (x < (a.length : Int)))) = true)), (((decide (x > 0)) && (decide (x < (a.length : Int)))) = true → ((0 : Int) ≤ x ∧ x < (a.length : Int))), (((decide (x > 0)) && (decide (x < (a.length : Int)))) = true → (((decide (x > 0)) && (decide (x < (a.length : Int)))) = true)), (((decide (x > 0)) && (decide (x < (a.length : Int)))) = true → ((decide (x > 0)) && (decide (x < (a.length : Int)))) = true)] ?_ (Zr (Rv hcx (congrArg AV.bool (show (((decide (x > 0)) && (decide (x < (a.length : Int)))) && (a.getD x.toNat false)) = (Cn.litW a x) from (by first | exact (Cn.litW_n h6_).symm | exact (Cn.litW_p h6_).symm))) [] rfl))))
   ·
    refine ap ?_ (ap ?_ (ap ?_ (ap (by exact id) (ap ?_ (ap ?_ (ap ?_ (ap ?_ (ap (by exact id) az)))))))) <;>
     first | omega | exact id | exact vcNot | exact vcG | exact vcH | (intro _; omega) | exact (fun _ h => h) | (intro h; simp at h; omega) | (simp only [List.length_cons, List.length_nil, List.length_append, List.length_map, List.length_set, List.length_replicate]; omega) | (intro h; simp [h]; done) | (constructor <;> omega) | (intro _; constructor <;> omega) | (intro hg; simp only [Bool.and_eq_true, decide_eq_true_eq] at hg; omega) | (intro hg; simp only [Bool.and_eq_true, decide_eq_true_eq] at hg; constructor <;> omega) | done
 ·
  cases hσ
end Go.Proofs.YtkkapbnopmmmjaaGreatDoor.En
