/- Lemmas and contracts for the row. -/
import Derived.Test.YtkkapbnopmmmjaaGreatDoorPkRowEncodeExtendsY
import Derived.Test.YtkkapbnopmmmjaaGreatDoorPkRowEncodeExtendsL
import Derived.Test.YtkkapbnopmmmjaaGreatDoorProg
import Derived.Test.YtkkapbnopmmmjaaGreatDoorPkRowEncodeExtendsB
set_option linter.unusedVariables false
set_option linter.unusedSimpArgs false
set_option linter.unnecessarySimpa false
namespace Go.Proofs.YtkkapbnopmmmjaaGreatDoor.En
open Go Go.RowKit
def tyCan2 : List (Nat × TD) := [(3, ⟨1, false, [.int .i64 0], [], none, 8, false, 1, 1⟩),
  (4, ⟨1, false, [.bool false], [], none, 1, true, 0, 2⟩),
  (22, ⟨1, false, [.slice none 0 0], [], some 3, 24, false, 0, 3⟩),
  (30, ⟨1, false, [.slice none 0 0], [], some 22, 24, false, 0, 0⟩),
  (35, ⟨1, false, [.slice none 0 0], [], some 4, 24, false, 0, 0⟩)]
theorem tyCan2_ok : AllTy Tryz.prog tyCan2 := ⟨⟨by kernel_rfl, by kernel_rfl, by kernel_rfl⟩, ⟨by kernel_rfl, by kernel_rfl, by kernel_rfl⟩, ⟨by kernel_rfl, by kernel_rfl, by kernel_rfl⟩, ⟨by kernel_rfl, by kernel_rfl, by kernel_rfl⟩, ⟨by kernel_rfl, by kernel_rfl, by kernel_rfl⟩, trivial⟩
def cx_lKnown : Cx := ⟨tyCan2, [], true⟩
theorem cx_lKnown_ok : CxOk Tryz.prog cx_lKnown := cx_ok tyCan2_ok trivial
def lKnown_σ : CtF
  | [.im (.ls (.bools a)), .im (.val (.int .i64 next)), .im (.val (.int .i64 after))], [] => some (a.length ≤ maxLen ∧ 1 ≤ next ∧ next ≤ after ∧ after ≤ 1000, .row 0, [some (.row 3 (.ints (Cn.knV a next after)))])
  | _, _ => none
theorem lKnown_sound : Sound Tryz.prog 20 lKnown_σ := by
 refine Sw (cx := cx_lKnown) Tryz.f20 Tryz.func20 ?_
 intro wW wO wβ G0 args os p r outs hσ hp
 have hcx := cx_lKnown_ok
 unfold lKnown_σ at hσ
 split at hσ
 ·
  rename_i a next after
  cases hσ
  refine ⟨by kernel_rfl, ?_⟩
  obtain ⟨hm1, hn1, hn2, hn3⟩ := hp
  unfold maxLen at hm1
  refine Sz hcx [] [] [] [] (Sq hcx [(1001, .to 210)] [7] [2] [] [((0 : Int) ≤ after ∧ after ≤ (after : Int) ∧ after.toNat * 8 ≤ 140737488355328)] ?_ (Zs (Sz hcx [] [8] [] [] (Zb (Zn [(210, .to 700)] [0, 1, 7, 8] (Lp (X := Nat) (fun x0 => x0 = 0 ∨ (x0 : Int) < next) (fun x0 => ([(0, .bools a), (1, .int next), (7, .row 700), (8, .int ((x0 : Int) + 1))], [(700, .row 3 (.ints (Cn.knK a after x0)))])) (fun x0 => next.toNat - x0) (0) ?_ Eb (Hx 700 (congrArg (fun x => AObj.row 3 (.ints x)) (show (List.replicate after.toNat (0 : Int)) = (Cn.knK a after 0) from (by exact Cn.knK_0 (by omega)))) Hb) fun i hI => ?_))))))
  ·
   refine ap ?_ az
   first | omega | exact id | exact vcNot | exact vcG | exact vcH | (intro _; omega) | exact (fun _ h => h) | (intro h; simp at h; omega) | (simp only [List.length_cons, List.length_nil, List.length_append, List.length_map, List.length_set, List.length_replicate]; omega) | (intro h; simp [h]; done) | (unfold maxLen; omega) | (constructor <;> omega) | (rw [List.length_set]; constructor <;> omega) | (rw [hkl]; omega) | (rw [hkl]; constructor <;> omega) | (rw [List.length_set, hkl]; constructor <;> omega) | (rw [List.length_set, hkl]; omega) | (intro _; constructor <;> omega) | (intro _; omega) | (intro hg; simp only [decide_eq_true_eq] at hg; constructor <;> omega) | done
  ·
   show 0 = 0 ∨ (0 : Int) < next
   exact .inl rfl
  ·
   replace hI : i = 0 ∨ (i : Int) < next := hI
   have hkl := Cn.knK_len (a := a) (after := after) (n := i)
   refine Zs (Sz hcx [] [13] [] [] (Zj (p := (((i : Int) + 1) < next)) (fun h0 => ?_) fun h0 => ?_))
   ·
    have h13_ := h0
    refine Zk (Ft (Zs (Zb (Sq hcx [(700, .to 700)] [] [13] [] [((0 : Int) ≤ ((i : Int) + 1) ∧ ((i : Int) + 1) < ((Cn.knK a after i).length : Int)), ((((i : Int) + 1).toNat) < (Cn.knK a after i).length)] ?_ (Sq hcx [] [28] [] [] [((decide (((i : Int) + 1) < (a.length : Int))) = true → ((decide (((i : Int) + 1) < (a.length : Int))) = true)), ((decide (((i : Int) + 1) < (a.length : Int))) = true → ((decide (((i : Int) + 1) < (a.length : Int))) = true)), ((decide (((i : Int) + 1) < (a.length : Int))) = true → ((0 : Int) ≤ ((i : Int) + 1) ∧ ((i : Int) + 1) < (a.length : Int))), ((decide (((i : Int) + 1) < (a.length : Int))) = true → ((decide (((i : Int) + 1) < (a.length : Int))) = true)), ((decide (((i : Int) + 1) < (a.length : Int))) = true → (decide (((i : Int) + 1) < (a.length : Int))) = true)] ?_ (Zi (b := (decide (((i : Int) + 1) < (a.length : Int))) && (a.getD (((i : Int) + 1).toNat) false)) (fun h1 => ?_) fun h1 => ?_))))))
    ·
     refine ap ?_ (ap ?_ az) <;>
      first | omega | exact id | exact vcNot | exact vcG | exact vcH | (intro _; omega) | exact (fun _ h => h) | (intro h; simp at h; omega) | (simp only [List.length_cons, List.length_nil, List.length_append, List.length_map, List.length_set, List.length_replicate]; omega) | (intro h; simp [h]; done) | (unfold maxLen; omega) | (constructor <;> omega) | (rw [List.length_set]; constructor <;> omega) | (rw [hkl]; omega) | (rw [hkl]; constructor <;> omega) | (rw [List.length_set, hkl]; constructor <;> omega) | (rw [List.length_set, hkl]; omega) | (intro _; constructor <;> omega) | (intro _; omega) | (intro hg; simp only [decide_eq_true_eq] at hg; constructor <;> omega) | done
    ·
     refine ap ?_ (ap ?_ (ap ?_ (ap ?_ (ap (by exact id) az)))) <;>
      first | omega | exact id | exact vcNot | exact vcG | exact vcH | (intro _; omega) | exact (fun _ h => h) | (intro h; simp at h; omega) | (simp only [List.length_cons, List.length_nil, List.length_append, List.length_map, List.length_set, List.length_replicate]; omega) | (intro h; simp [h]; done) | (unfold maxLen; omega) | (constructor <;> omega) | (rw [List.length_set]; constructor <;> omega) | (rw [hkl]; omega) | (rw [hkl]; constructor <;> omega) | (rw [List.length_set, hkl]; constructor <;> omega) | (rw [List.length_set, hkl]; omega) | (intro _; constructor <;> omega) | (intro _; omega) | (intro hg; simp only [decide_eq_true_eq] at hg; constructor <;> omega) | done
    ·
     have hq := Cn.knK_1 (after := after) (n := i) (a := a) (m := ((i : Int) + 1).toNat) (by omega) h1
     refine Tq hcx [(700, .to 700)] [] [28] [] [((0 : Int) ≤ ((i : Int) + 1) ∧ ((i : Int) + 1) < (((Cn.knK a after i).set (((i : Int) + 1).toNat) 2).length : Int)), ((((i : Int) + 1).toNat) < ((Cn.knK a after i).set (((i : Int) + 1).toNat) 2).length)] ?_ (Fb (Ft (Tq hcx [] [8] [] [] [Fit (((i : Int) + 1) + 1)] ?_ (Lr (i + 1) ?_ ?_ (Ex 8 (congrArg AV.int (show (((i : Int) + 1) + 1) = (((i + 1) : Int) + 1) from (by omega))) Eb) (Hx 700 (congrArg (fun x => AObj.row 3 (.ints x)) (show (((Cn.knK a after i).set (((i : Int) + 1).toNat) 2).set (((i : Int) + 1).toNat) 1) = (Cn.knK a after (i + 1)) from (by exact hq))) Hb)))))
     ·
      refine ap ?_ (ap ?_ az) <;>
       first | omega | exact id | exact vcNot | exact vcG | exact vcH | (intro _; omega) | exact (fun _ h => h) | (intro h; simp at h; omega) | (simp only [List.length_cons, List.length_nil, List.length_append, List.length_map, List.length_set, List.length_replicate]; omega) | (intro h; simp [h]; done) | (unfold maxLen; omega) | (constructor <;> omega) | (rw [List.length_set]; constructor <;> omega) | (rw [hkl]; omega) | (rw [hkl]; constructor <;> omega) | (rw [List.length_set, hkl]; constructor <;> omega) | (rw [List.length_set, hkl]; omega) | (intro _; constructor <;> omega) | (intro _; omega) | (intro hg; simp only [decide_eq_true_eq] at hg; constructor <;> omega) | done
     ·
      refine ap ?_ az
      first | omega | exact id | exact vcNot | exact vcG | exact vcH | (intro _; omega) | exact (fun _ h => h) | (intro h; simp at h; omega) | (simp only [List.length_cons, List.length_nil, List.length_append, List.length_map, List.length_set, List.length_replicate]; omega) | (intro h; simp [h]; done) | (unfold maxLen; omega) | (constructor <;> omega) | (rw [List.length_set]; constructor <;> omega) | (rw [hkl]; omega) | (rw [hkl]; constructor <;> omega) | (rw [List.length_set, hkl]; constructor <;> omega) | (rw [List.length_set, hkl]; omega) | (intro _; constructor <;> omega) | (intro _; omega) | (intro hg; simp only [decide_eq_true_eq] at hg; constructor <;> omega) | done
     ·
      show (i + 1) = 0 ∨ ((i + 1) : Int) < next
      omega
     ·
      show next.toNat - (i + 1) < next.toNat - i
      omega
    ·
     have hq := Cn.knK_2 (after := after) (n := i) (a := a) (m := ((i : Int) + 1).toNat) (by omega) h1
     refine Zk (Fb (Ft (Tq hcx [] [8] [28] [] [Fit (((i : Int) + 1) + 1)] ?_ (Lr (i + 1) ?_ ?_ (Ex 8 (congrArg AV.int (show (((i : Int) + 1) + 1) = (((i + 1) : Int) + 1) from (by omega))) Eb) (Hx 700 (congrArg (fun x => AObj.row 3 (.ints x)) (show ((Cn.knK a after i).set (((i : Int) + 1).toNat) 2) = (Cn.knK a after (i + 1)) from (by exact hq))) Hb)))))
     ·
      refine ap ?_ az
      first | omega | exact id | exact vcNot | exact vcG | exact vcH | (intro _; omega) | exact (fun _ h => h) | (intro h; simp at h; omega) | (simp only [List.length_cons, List.length_nil, List.length_append, List.length_map, List.length_set, List.length_replicate]; omega) | (intro h; simp [h]; done) | (unfold maxLen; omega) | (constructor <;> omega) | (rw [List.length_set]; constructor <;> omega) | (rw [hkl]; omega) | (rw [hkl]; constructor <;> omega) | (rw [List.length_set, hkl]; constructor <;> omega) | (rw [List.length_set, hkl]; omega) | (intro _; constructor <;> omega) | (intro _; omega) | (intro hg; simp only [decide_eq_true_eq] at hg; constructor <;> omega) | done
     ·
      show (i + 1) = 0 ∨ ((i + 1) : Int) < next
      omega
     ·
      show next.toNat - (i + 1) < next.toNat - i
      omega
   ·
    have h13_ := h0
    have hfin := Cn.knK_fin (a := a) (after := after) hI h13_
    exact Ze (Fe (Fe (Fs (Ft (Sz hcx [] [6] [13, 0, 1, 7, 8] [] (Zr (Fn [(700, .to 0)] [6] (Rv hcx rfl [true] (consO (congrArg some (congrArg (fun x => AObj.row 3 (.ints x)) (show (Cn.knK a after i) = (Cn.knV a next after) from (by exact hfin)))) rfl)))))))))
 ·
  cases hσ
def cx_lFits : Cx := ⟨tyCan2, [], true⟩
theorem cx_lFits_ok : CxOk Tryz.prog cx_lFits := cx_ok tyCan2_ok trivial
def lFits_σ : CtF
  | [.im (.ls (.intss c)), .im (.val (.int .i64 n))], [] => some (c.length ≤ 1000000000 ∧ (∀ l ∈ c, l.length ≤ 1000000000) ∧ Cn.OkC n.toNat c ∧ n ≤ 1000, .bool true, [])
  | _, _ => none
theorem lFits_sound : Sound Tryz.prog 16 lFits_σ := by
 refine Sw (cx := cx_lFits) Tryz.f16 Tryz.func16 ?_
 intro wW wO wβ G0 args os p r outs hσ hp
 have hcx := cx_lFits_ok
 unfold lFits_σ at hσ
 split at hσ
 ·
  rename_i c n
  cases hσ
  refine ⟨by kernel_rfl, ?_⟩
  obtain ⟨hm1, hm2, hc, hn⟩ := hp
  have hb := fun i (h : i < c.length) => hm2 _ (Cn.getD_memL (d := ([] : List Int)) (k := i) h)
  refine Sz hcx [] [] [] [] (Zs (Sz hcx [] [5] [] [] (Zb (Lp (X := Nat) (fun x0 => x0 ≤ c.length) (fun x0 => ([(0, .intss c), (1, .int n), (5, .int (x0 : Int))], [])) (fun x0 => c.length - x0) (0) ?_ (Ex 5 (congrArg AV.int (show 0 = (0 : Int) from (by first | rfl | omega | (simp; done)))) Eb) Hb fun i hI => ?_))))
  ·
   show 0 ≤ c.length
   omega
  ·
   replace hI : i ≤ c.length := hI
   refine Zs (Sz hcx [] [10] [] [] (Zj (p := ((i : Int) < (c.length : Int))) (fun h0 => ?_) fun h0 => ?_))
   ·
    have h10_ := h0
    have hbi := hb i (by omega)
    refine Zk (Ft (Zs (Zb (Sz hcx [] [6] [10] [] (Zb (Lp (X := Nat) (fun x0 => x0 ≤ (c.getD i []).length) (fun x0 => ([(0, .intss c), (1, .int n), (5, .int (i : Int)), (6, .int (x0 : Int))], [])) (fun x0 => (c.getD i []).length - x0) (0) ?_ (Ex 6 (congrArg AV.int (show 0 = (0 : Int) from (by first | rfl | omega | (simp; done)))) Eb) Hb fun k hI => ?_))))))
    ·
     show 0 ≤ (c.getD i []).length
     omega
    ·
     replace hI : k ≤ (c.getD i []).length := hI
     refine Zs (Sq hcx [] [19] [] [] [((0 : Int) ≤ (i : Int) ∧ (i : Int) < (c.length : Int))] ?_ (Zj (p := ((k : Int) < ((c.getD i []).length : Int))) (fun h1 => ?_) fun h1 => ?_))
     ·
      refine ap ?_ az
      first | omega | exact id | exact vcNot | exact vcG | exact vcH | (intro _; omega) | exact (fun _ h => h) | (intro h; simp at h; omega) | (simp only [List.length_cons, List.length_nil, List.length_append, List.length_map, List.length_set, List.length_replicate]; omega) | (intro h; simp [h]; done) | (constructor <;> omega) | (intro _; constructor <;> omega) | (intro _; omega) | done
     ·
      have h19_ := h1
      have hxk := Cn.okc_x hc (i := i) (k := k) (by omega) (by omega)
      refine Zk (Ft (Zs (Zb (Sq hcx [] [52] [19] [] [((0 : Int) ≤ (i : Int) ∧ (i : Int) < (c.length : Int)), ((0 : Int) ≤ (k : Int) ∧ (k : Int) < ((c.getD i []).length : Int)), ((!(((c.getD i []).getD k 0) == 0)) = true → ((!(((c.getD i []).getD k 0) == 0)) = true)), ((!(((c.getD i []).getD k 0) == 0)) = true → ((!(((c.getD i []).getD k 0) == 0)) = true)), ((!(((c.getD i []).getD k 0) == 0)) = true → ((0 : Int) ≤ (i : Int) ∧ (i : Int) < (c.length : Int))), ((!(((c.getD i []).getD k 0) == 0)) = true → ((!(((c.getD i []).getD k 0) == 0)) = true)), ((!(((c.getD i []).getD k 0) == 0)) = true → ((!(((c.getD i []).getD k 0) == 0)) = true)), ((!(((c.getD i []).getD k 0) == 0)) = true → ((!(((c.getD i []).getD k 0) == 0)) = true)), ((!(((c.getD i []).getD k 0) == 0)) = true → ((0 : Int) ≤ (k : Int) ∧ (k : Int) < ((c.getD i []).length : Int))), ((!(((c.getD i []).getD k 0) == 0)) = true → ((!(((c.getD i []).getD k 0) == 0)) = true)), ((!(((c.getD i []).getD k 0) == 0)) = true → ((!(((c.getD i []).getD k 0) == 0)) = true)), ((!(((c.getD i []).getD k 0) == 0)) = true → ((!(((c.getD i []).getD k 0) == 0)) = true)), ((((c.getD i []).getD k 0) == 0) = false → (!(((c.getD i []).getD k 0) == 0)) = true), ((!((((c.getD i []).getD k 0) == 0) || (decide (((c.getD i []).getD k 0) ≥ n)))) = true → ((!((((c.getD i []).getD k 0) == 0) || (decide (((c.getD i []).getD k 0) ≥ n)))) = true)), ((!((((c.getD i []).getD k 0) == 0) || (decide (((c.getD i []).getD k 0) ≥ n)))) = true → ((!((((c.getD i []).getD k 0) == 0) || (decide (((c.getD i []).getD k 0) ≥ n)))) = true)), ((!((((c.getD i []).getD k 0) == 0) || (decide (((c.getD i []).getD k 0) ≥ n)))) = true → ((0 : Int) ≤ (i : Int) ∧ (i : Int) < (c.length : Int))), ((!((((c.getD i []).getD k 0) == 0) || (decide (((c.getD i []).getD k 0) ≥ n)))) = true → ((!((((c.getD i []).getD k 0) == 0) || (decide (((c.getD i []).getD k 0) ≥ n)))) = true)), ((!((((c.getD i []).getD k 0) == 0) || (decide (((c.getD i []).getD k 0) ≥ n)))) = true → ((!((((c.getD i []).getD k 0) == 0) || (decide (((c.getD i []).getD k 0) ≥ n)))) = true)), ((!((((c.getD i []).getD k 0) == 0) || (decide (((c.getD i []).getD k 0) ≥ n)))) = true → ((!((((c.getD i []).getD k 0) == 0) || (decide (((c.getD i []).getD k 0) ≥ n)))) = true)), ((!((((c.getD i []).getD k 0) == 0) || (decide (((c.getD i []).getD k 0) ≥ n)))) = true → ((0 : Int) ≤ (k : Int) ∧ (k : Int) < ((c.getD i []).length : Int))), ((!((((c.getD i []).getD k 0) == 0) || (decide (((c.getD i []).getD k 0) ≥ n)))) = true → ((!((((c.getD i []).getD k 0) == 0) || (decide (((c.getD i []).getD k 0) ≥ n)))) = true)), ((!((((c.getD i []).getD k 0) == 0) || (decide (((c.getD i []).getD k 0) ≥ n)))) = true → ((!((((c.getD i []).getD k 0) == 0) || (decide (((c.getD i []).getD k 0) ≥ n)))) = true)), ((!((((c.getD i []).getD k 0) == 0) || (decide (((c.getD i []).getD k 0) ≥ n)))) = true → Fit (-((c.getD i []).getD k 0))), ((!((((c.getD i []).getD k 0) == 0) || (decide (((c.getD i []).getD k 0) ≥ n)))) = true → ((!((((c.getD i []).getD k 0) == 0) || (decide (((c.getD i []).getD k 0) ≥ n)))) = true)), ((!((((c.getD i []).getD k 0) == 0) || (decide (((c.getD i []).getD k 0) ≥ n)))) = true → ((!((((c.getD i []).getD k 0) == 0) || (decide (((c.getD i []).getD k 0) ≥ n)))) = true)), (((((c.getD i []).getD k 0) == 0) || (decide (((c.getD i []).getD k 0) ≥ n))) = false → (!((((c.getD i []).getD k 0) == 0) || (decide (((c.getD i []).getD k 0) ≥ n)))) = true)] ?_ (Zi (b := ((((c.getD i []).getD k 0) == 0) || (decide (((c.getD i []).getD k 0) ≥ n))) || (decide ((-((c.getD i []).getD k 0)) ≥ n))) (fun h2 => ?_) fun h2 => ?_)))))
      ·
       refine ap ?_ (ap ?_ (ap ?_ (ap ?_ (ap ?_ (ap ?_ (ap ?_ (ap ?_ (ap ?_ (ap ?_ (ap ?_ (ap ?_ (ap (by exact vcNot) (ap ?_ (ap ?_ (ap ?_ (ap ?_ (ap ?_ (ap ?_ (ap ?_ (ap ?_ (ap ?_ (ap ?_ (ap ?_ (ap ?_ (ap (by exact vcNot) az))))))))))))))))))))))))) <;>
        first | omega | exact id | exact vcNot | exact vcG | exact vcH | (intro _; omega) | exact (fun _ h => h) | (intro h; simp at h; omega) | (simp only [List.length_cons, List.length_nil, List.length_append, List.length_map, List.length_set, List.length_replicate]; omega) | (intro h; simp [h]; done) | (constructor <;> omega) | (intro _; constructor <;> omega) | (intro _; omega) | done
      ·
       (exfalso; exact Cn.ft_dead hxk.1 hxk.2 h2)
      ·
       skip
       refine Zk (Fb (Ft (Tq hcx [] [6] [52] [] [Fit ((k : Int) + 1)] ?_ (Lr (k + 1) ?_ ?_ (Ex 6 (congrArg AV.int (show ((k : Int) + 1) = ((k + 1) : Int) from (by first | rfl | omega | (simp; done)))) Eb) Hb))))
       ·
        refine ap ?_ az
        first | omega | exact id | exact vcNot | exact vcG | exact vcH | (intro _; omega) | exact (fun _ h => h) | (intro h; simp at h; omega) | (simp only [List.length_cons, List.length_nil, List.length_append, List.length_map, List.length_set, List.length_replicate]; omega) | (intro h; simp [h]; done) | (constructor <;> omega) | (intro _; constructor <;> omega) | (intro _; omega) | done
       ·
        show (k + 1) ≤ (c.getD i []).length
        omega
       ·
        try dsimp only
        omega
     ·
      refine Ze (Fe (Fe (Fs (Fb (Ft (Tq hcx [] [5] [19, 6] [] [Fit ((i : Int) + 1)] ?_ (Lr (i + 1) ?_ ?_ (Ex 5 (congrArg AV.int (show ((i : Int) + 1) = ((i + 1) : Int) from (by first | rfl | omega | (simp; done)))) Eb) Hb)))))))
      ·
       refine ap ?_ az
       first | omega | exact id | exact vcNot | exact vcG | exact vcH | (intro _; omega) | exact (fun _ h => h) | (intro h; simp at h; omega) | (simp only [List.length_cons, List.length_nil, List.length_append, List.length_map, List.length_set, List.length_replicate]; omega) | (intro h; simp [h]; done) | (constructor <;> omega) | (intro _; constructor <;> omega) | (intro _; omega) | done
      ·
       show (i + 1) ≤ c.length
       omega
      ·
       show c.length - (i + 1) < c.length - i
       omega
   ·
    exact Ze (Fe (Fe (Fs (Ft (Sz hcx [] [4] [10, 0, 1, 5] [] (Zr (Ru hcx [])))))))
 ·
  cases hσ
end Go.Proofs.YtkkapbnopmmmjaaGreatDoor.En
namespace Go.Proofs.YtkkapbnopmmmjaaGreatDoor.En
open Go Go.RowKit
def tyCan : List (Nat × TD) := [(3, ⟨1, false, [.int .i64 0], [], none, 8, false, 1, 1⟩),
  (22, ⟨1, false, [.slice none 0 0], [], some 3, 24, false, 0, 3⟩),
  (30, ⟨1, false, [.slice none 0 0], [], some 22, 24, false, 0, 0⟩)]
theorem tyCan_ok : AllTy Tryz.prog tyCan := ⟨⟨by kernel_rfl, by kernel_rfl, by kernel_rfl⟩, ⟨by kernel_rfl, by kernel_rfl, by kernel_rfl⟩, ⟨by kernel_rfl, by kernel_rfl, by kernel_rfl⟩, trivial⟩
def cx_rVal18 : Cx := ⟨tyCan, [], true⟩
theorem cx_rVal18_ok : CxOk Tryz.prog cx_rVal18 := cx_ok tyCan_ok trivial
def rVal18_σ : CtF
  | [.im (.val (.int .i64 x)), .im (.ls (.ints a))], [] => some (a.length ≤ 1000000 ∧ x.natAbs < a.length ∧ Cn.OkA a, .int (Cn.valA a x), [])
  | _, _ => none
theorem rVal18_sound : Sound Tryz.prog 99 rVal18_σ := by
 refine Sw (cx := cx_rVal18) Tryz.f99 Tryz.func99 ?_
 intro wW wO wβ G0 args os p r outs hσ hp
 have hcx := cx_rVal18_ok
 unfold rVal18_σ at hσ
 split at hσ
 ·
  rename_i x a
  cases hσ
  refine ⟨by kernel_rfl, ?_⟩
  obtain ⟨hm, hx, ha⟩ := hp
  have hb := ha (-x).toNat
  refine Sz hcx [] [] [] [] (Zs (Sz hcx [] [6] [] [] (Zj (p := (x > 0)) (fun h0 => ?_) fun h0 => ?_)))
  ·
   have h6_ := h0
   refine Sq hcx [] [4] [6, 0, 1] [] [((0 : Int) ≤ x ∧ x < (a.length : Int))] ?_ (Zr (Fr (Rv hcx (congrArg AV.int (show (a.getD x.toNat 0) = (Cn.valA a x) from (by first | exact Cn.vl_1 h6_ | exact Cn.vl_2 h6_))) [] rfl)))
   ·
    refine ap ?_ az
    first | omega | exact id | exact vcNot | exact vcG | exact vcH | (intro _; omega) | exact (fun _ h => h) | (intro h; simp at h; omega) | (simp only [List.length_cons, List.length_nil, List.length_append, List.length_map, List.length_set, List.length_replicate]; omega) | (intro h; simp [h]; done) | (constructor <;> omega) | done
  ·
   have h6_ := h0
   refine Zk (Ft (Sq hcx [] [4] [6, 0, 1] [] [Fit (-x), ((0 : Int) ≤ (-x) ∧ (-x) < (a.length : Int)), Fit (3 - (a.getD ((-x).toNat) 0)), ((3 : Int) ≠ 0)] ?_ (Zr (Rv hcx (congrArg AV.int (show ((3 - (a.getD ((-x).toNat) 0)).tmod 3) = (Cn.valA a x) from (by first | exact Cn.vl_1 h6_ | exact Cn.vl_2 h6_))) [] rfl))))
   ·
    refine ap ?_ (ap ?_ (ap ?_ (ap ?_ az))) <;>
     first | omega | exact id | exact vcNot | exact vcG | exact vcH | (intro _; omega) | exact (fun _ h => h) | (intro h; simp at h; omega) | (simp only [List.length_cons, List.length_nil, List.length_append, List.length_map, List.length_set, List.length_replicate]; omega) | (intro h; simp [h]; done) | (constructor <;> omega) | done
 ·
  cases hσ
def cx_rSet18 : Cx := ⟨tyCan, [], true⟩
theorem cx_rSet18_ok : CxOk Tryz.prog cx_rSet18 := cx_ok tyCan_ok trivial
def rSet18_σ : CtF
  | [.row 0, .im (.val (.int .i64 x))], [.row 3 (.ints a)] => some (a.length ≤ 1000000 ∧ x.natAbs < a.length, .tup [], [some (.row 3 (.ints (Cn.setV a x)))])
  | _, _ => none
theorem rSet18_sound : Sound Tryz.prog 100 rSet18_σ := by
 refine Sw (cx := cx_rSet18) Tryz.f100 Tryz.func100 ?_
 intro wW wO wβ G0 args os p r outs hσ hp
 have hcx := cx_rSet18_ok
 unfold rSet18_σ at hσ
 split at hσ
 ·
  rename_i x a
  cases hσ
  refine ⟨by kernel_rfl, ?_⟩
  obtain ⟨hm, hx⟩ := hp
  refine Sz hcx [] [5] [] [] (Zj (p := (x > 0)) (fun h0 => ?_) fun h0 => ?_)
  ·
   have h5_ := h0
   refine Tq hcx [(0, .to 0)] [] [5, 0, 1] [] [((0 : Int) ≤ x ∧ x < (a.length : Int)), (x.toNat < a.length)] ?_ (Rw hcx rfl [true] (consO (congrArg some (congrArg (fun x => AObj.row 3 (.ints x)) (show (a.set x.toNat 1) = (Cn.setV a x) from (by first | exact Cn.st_1 h5_ | exact Cn.st_2 h5_)))) rfl))
   ·
    refine ap ?_ (ap ?_ az) <;>
     first | omega | exact id | exact vcNot | exact vcG | exact vcH | (intro _; omega) | exact (fun _ h => h) | (intro h; simp at h; omega) | (simp only [List.length_cons, List.length_nil, List.length_append, List.length_map, List.length_set, List.length_replicate]; omega) | (intro h; simp [h]; done) | (constructor <;> omega) | done
  ·
   have h5_ := h0
   refine Tq hcx [(0, .to 0)] [] [5, 0, 1] [] [Fit (-x), ((0 : Int) ≤ (-x) ∧ (-x) < (a.length : Int)), (((-x).toNat) < a.length)] ?_ (Rw hcx rfl [true] (consO (congrArg some (congrArg (fun x => AObj.row 3 (.ints x)) (show (a.set ((-x).toNat) 2) = (Cn.setV a x) from (by first | exact Cn.st_1 h5_ | exact Cn.st_2 h5_)))) rfl))
   ·
    refine ap ?_ (ap ?_ (ap ?_ az)) <;>
     first | omega | exact id | exact vcNot | exact vcG | exact vcH | (intro _; omega) | exact (fun _ h => h) | (intro h; simp at h; omega) | (simp only [List.length_cons, List.length_nil, List.length_append, List.length_map, List.length_set, List.length_replicate]; omega) | (intro h; simp [h]; done) | (constructor <;> omega) | done
 ·
  cases hσ
def cx_rSpr18 : Cx := ⟨tyCan, [(99, (coeF [.id, .ld (.ints [])] rVal18_σ)), (100, rSet18_σ)], true⟩
theorem cx_rSpr18_ok : CxOk Tryz.prog cx_rSpr18 := cx_ok tyCan_ok ⟨(rVal18_sound.coe [.id, .ld (.ints [])] rfl), rSet18_sound, trivial⟩
def rSpr18_σ : CtF
  | [.im (.ls (.intss c)), .row 0], [.row 3 (.ints a)] => some (c.length ≤ 1000000000 ∧ (∀ l ∈ c, l.length ≤ 1000000000) ∧ a.length ≤ 1000000 ∧ Cn.OkC a.length c ∧ Cn.OkA a, .bool ((Cn.spr c a).1), [some (.row 3 (.ints ((Cn.spr c a).2)))])
  | _, _ => none
set_option maxRecDepth 4000 in
set_option maxHeartbeats 2000000 in
theorem rSpr18_sound : Sound Tryz.prog 48 rSpr18_σ := by
 refine Sw (cx := cx_rSpr18) Tryz.f48 Tryz.func48 ?_
 intro wW wO wβ G0 args os p r outs hσ hp
 have hcx := cx_rSpr18_ok
 unfold rSpr18_σ at hσ
 split at hσ
 ·
  rename_i c a
  cases hσ
  refine ⟨by kernel_rfl, ?_⟩
  obtain ⟨hm1, hm2, hm3, hc, ha⟩ := hp
  have hb := fun i (h : i < c.length) => hm2 _ (Cn.getD_memL (d := ([] : List Int)) (k := i) h)
  refine Sz hcx [] [] [] [] (Zs (Sz hcx [] [5] [] [] (Zb (Lp (X := Nat) (fun x0 => Cn.RunI c a x0) (fun x0 => ([(0, .intss c), (1, .row 0), (5, .bool (Cn.agn c a x0))], [(0, .row 3 (.ints (Cn.rnd c a x0)))])) (fun x0 => Cn.zer a + 2 - x0) (0) ?_ Eb Hb fun n hI => ?_))))
  ·
   show Cn.RunI c a 0
   exact Cn.run_0 ha
  ·
   replace hI : Cn.RunI c a n := hI
   have hI9 := hI
   have hn9 := hI.hn
   refine Zs (Sz hcx [] [11] [5] [] (Zi (b := Cn.agn c a n) (fun h0 => ?_) fun h0 => ?_))
   ·
    have hg := h0
    have hci : Cn.OkC (Cn.rnd c a n).length c := by rw [hI.len]; exact hc
    have hpa := fun i h => Cn.psI hI.ok hci i h
    refine Zk (Ft (Zb (Sz hcx [] [5] [11] [] (Sz hcx [] [6] [] [] (Zb (Lp (X := Nat) (fun x0 => x0 ≤ c.length ∧ (Cn.ps c (Cn.rnd c a n) x0).2.2 = false) (fun x0 => ([(0, .intss c), (1, .row 0), (5, .bool ((Cn.ps c (Cn.rnd c a n) x0).2.1)), (6, .int (x0 : Int))], [(0, .row 3 (.ints ((Cn.ps c (Cn.rnd c a n) x0).1)))])) (fun x0 => c.length - x0) (0) ?_ (Ex 6 (congrArg AV.int (show 0 = (0 : Int) from (by first | rfl | omega | (simp; done)))) Eb) Hb fun i hI => ?_))))))
    ·
     exact ⟨Nat.zero_le _, rfl⟩
    ·
     try dsimp only at hI
     obtain ⟨hk, hz⟩ := hI
     have hq := hpa i hk
     have hln : (Cn.ps c (Cn.rnd c a n) i).1.length = a.length := hq.len.trans hI9.len
     refine Zs (Sz hcx [] [15] [] [] (Zj (p := ((i : Int) < (c.length : Int))) (fun h1 => ?_) fun h1 => ?_))
     ·
      have h15_ := h1
      have hx0 := Cn.okc_0 hc (i := i) (by omega)
      have hbi := hb i (by omega)
      refine Zk (Ft (Zs (Zb (Sz hcx [] [7] [15] [] (Sz hcx [] [8] [] [] (Zs (Sz hcx [] [9] [] [] (Zb (Lp (X := Nat) (fun x0 => x0 ≤ (c.getD i []).length) (fun x0 => ([(0, .intss c), (1, .row 0), (5, .bool ((Cn.ps c (Cn.rnd c a n) i).2.1)), (6, .int (i : Int)), (7, .int ((Cn.lk (Cn.ps c (Cn.rnd c a n) i).1 (c.getD i []) x0).1)), (8, .int ((Cn.lk (Cn.ps c (Cn.rnd c a n) i).1 (c.getD i []) x0).2)), (9, .int (x0 : Int))], [(0, .row 3 (.ints ((Cn.ps c (Cn.rnd c a n) i).1)))])) (fun x0 => (c.getD i []).length - x0) (0) ?_ (Ex 9 (congrArg AV.int (show 0 = (0 : Int) from (by first | rfl | omega | (simp; done)))) Eb) Hb fun k hI => ?_)))))))))
      ·
       show 0 ≤ (c.getD i []).length
       omega
      ·
       replace hI : k ≤ (c.getD i []).length := hI
       have hlo := (Cn.lkI hq.ok hx0 k hI).lo
       have hhi := (Cn.lkI hq.ok hx0 k hI).hi
       refine Zs (Sq hcx [] [24] [] [] [((0 : Int) ≤ (i : Int) ∧ (i : Int) < (c.length : Int))] ?_ (Zj (p := ((k : Int) < ((c.getD i []).length : Int))) (fun h2 => ?_) fun h2 => ?_))
       ·
        refine ap ?_ az
        first | omega | exact id | exact vcNot | exact vcG | exact vcH | (intro _; omega) | exact (fun _ h => h) | (intro h; simp at h; omega) | (simp only [List.length_cons, List.length_nil, List.length_append, List.length_map, List.length_set, List.length_replicate]; omega) | (intro h; simp [h]; done) | exact ⟨by omega, by omega, hq.ok⟩ | exact ⟨by omega, by omega⟩ | (constructor <;> omega) | (intro _; constructor <;> omega) | (intro _; omega) | done
       ·
        have h24_ := h2
        have hxk := Cn.okc_x hc (i := i) (k := k) (by omega) (by omega)
        refine Zk (Ft (Zs (Zb (Sq hcx [] [10] [24] [] [((0 : Int) ≤ (i : Int) ∧ (i : Int) < (c.length : Int)), ((0 : Int) ≤ (k : Int) ∧ (k : Int) < ((c.getD i []).length : Int)), (((Cn.ps c (Cn.rnd c a n) i).1).length ≤ 1000000 ∧ ((c.getD i []).getD k 0).natAbs < ((Cn.ps c (Cn.rnd c a n) i).1).length ∧ Cn.OkA ((Cn.ps c (Cn.rnd c a n) i).1))] ?_ (Zs (Sz hcx [] [37] [] [] (Zu (a := (Cn.valA ((Cn.ps c (Cn.rnd c a n) i).1) ((c.getD i []).getD k 0))) (b := 1) (fun h3 => ?_) fun h3 => ?_)))))))
        ·
         refine ap ?_ (ap ?_ (ap ?_ az)) <;>
          first | omega | exact id | exact vcNot | exact vcG | exact vcH | (intro _; omega) | exact (fun _ h => h) | (intro h; simp at h; omega) | (simp only [List.length_cons, List.length_nil, List.length_append, List.length_map, List.length_set, List.length_replicate]; omega) | (intro h; simp [h]; done) | exact ⟨by omega, by omega, hq.ok⟩ | exact ⟨by omega, by omega⟩ | (constructor <;> omega) | (intro _; constructor <;> omega) | (intro _; omega) | done
        ·
         have hm := Cn.lk_t1 (m := (Cn.lk (Cn.ps c (Cn.rnd c a n) i).1 (c.getD i []) k).2) h3
         refine Tz hcx [] [8] [37] [] (Ft (Sq hcx [] [50] [10] [] [(((Cn.valA ((Cn.ps c (Cn.rnd c a n) i).1) ((c.getD i []).getD k 0)) == 0) = true → (((Cn.valA ((Cn.ps c (Cn.rnd c a n) i).1) ((c.getD i []).getD k 0)) == 0) = true)), (((Cn.valA ((Cn.ps c (Cn.rnd c a n) i).1) ((c.getD i []).getD k 0)) == 0) = true → (((Cn.valA ((Cn.ps c (Cn.rnd c a n) i).1) ((c.getD i []).getD k 0)) == 0) = true)), (((Cn.valA ((Cn.ps c (Cn.rnd c a n) i).1) ((c.getD i []).getD k 0)) == 0) = true → ((0 : Int) ≤ (i : Int) ∧ (i : Int) < (c.length : Int))), (((Cn.valA ((Cn.ps c (Cn.rnd c a n) i).1) ((c.getD i []).getD k 0)) == 0) = true → (((Cn.valA ((Cn.ps c (Cn.rnd c a n) i).1) ((c.getD i []).getD k 0)) == 0) = true)), (((Cn.valA ((Cn.ps c (Cn.rnd c a n) i).1) ((c.getD i []).getD k 0)) == 0) = true → (((Cn.valA ((Cn.ps c (Cn.rnd c a n) i).1) ((c.getD i []).getD k 0)) == 0) = true)), (((Cn.valA ((Cn.ps c (Cn.rnd c a n) i).1) ((c.getD i []).getD k 0)) == 0) = true → (((Cn.valA ((Cn.ps c (Cn.rnd c a n) i).1) ((c.getD i []).getD k 0)) == 0) = true)), (((Cn.valA ((Cn.ps c (Cn.rnd c a n) i).1) ((c.getD i []).getD k 0)) == 0) = true → ((0 : Int) ≤ (k : Int) ∧ (k : Int) < ((c.getD i []).length : Int))), (((Cn.valA ((Cn.ps c (Cn.rnd c a n) i).1) ((c.getD i []).getD k 0)) == 0) = true → (((Cn.valA ((Cn.ps c (Cn.rnd c a n) i).1) ((c.getD i []).getD k 0)) == 0) = true)), (((Cn.valA ((Cn.ps c (Cn.rnd c a n) i).1) ((c.getD i []).getD k 0)) == 0) = true → (((Cn.valA ((Cn.ps c (Cn.rnd c a n) i).1) ((c.getD i []).getD k 0)) == 0) = true)), (((Cn.valA ((Cn.ps c (Cn.rnd c a n) i).1) ((c.getD i []).getD k 0)) == 0) = true → (((Cn.valA ((Cn.ps c (Cn.rnd c a n) i).1) ((c.getD i []).getD k 0)) == 0) = true)), (((Cn.valA ((Cn.ps c (Cn.rnd c a n) i).1) ((c.getD i []).getD k 0)) == 0) = true → ((Cn.valA ((Cn.ps c (Cn.rnd c a n) i).1) ((c.getD i []).getD k 0)) == 0) = true)] ?_ (Zi (b := ((Cn.valA ((Cn.ps c (Cn.rnd c a n) i).1) ((c.getD i []).getD k 0)) == 0) && (((c.getD i []).getD k 0) != ((Cn.lk (Cn.ps c (Cn.rnd c a n) i).1 (c.getD i []) k).1))) (fun h4 => ?_) fun h4 => ?_)))
         ·
          refine ap ?_ (ap ?_ (ap ?_ (ap ?_ (ap ?_ (ap ?_ (ap ?_ (ap ?_ (ap ?_ (ap ?_ (ap (by exact id) az)))))))))) <;>
           first | omega | exact id | exact vcNot | exact vcG | exact vcH | (intro _; omega) | exact (fun _ h => h) | (intro h; simp at h; omega) | (simp only [List.length_cons, List.length_nil, List.length_append, List.length_map, List.length_set, List.length_replicate]; omega) | (intro h; simp [h]; done) | exact ⟨by omega, by omega, hq.ok⟩ | exact ⟨by omega, by omega⟩ | (constructor <;> omega) | (intro _; constructor <;> omega) | (intro _; omega) | done
         ·
          have hlk := Cn.lk_c1 (by omega) hm h4
          refine Sq hcx [] [7] [50] [] [((0 : Int) ≤ (i : Int) ∧ (i : Int) < (c.length : Int)), ((0 : Int) ≤ (k : Int) ∧ (k : Int) < ((c.getD i []).length : Int))] ?_ (Tq hcx [] [8] [] [] [Fit (3 + 1)] ?_ (Fb (Ft (Tq hcx [] [9] [] [] [Fit ((k : Int) + 1)] ?_ (Lr (k + 1) ?_ ?_ (Ex 7 (congrArg AV.int (show ((c.getD i []).getD k 0) = (Cn.lk (Cn.ps c (Cn.rnd c a n) i).1 (c.getD i []) (k + 1)).1 from (by (rw [hlk]; done)))) (Ex 8 (congrArg AV.int (show (3 + 1) = (Cn.lk (Cn.ps c (Cn.rnd c a n) i).1 (c.getD i []) (k + 1)).2 from (by (rw [hlk]; done)))) (Ex 9 (congrArg AV.int (show ((k : Int) + 1) = ((k + 1) : Int) from (by first | rfl | omega | (simp; done)))) Eb))) Hb)))))
          ·
           refine ap ?_ (ap ?_ az) <;>
            first | omega | exact id | exact vcNot | exact vcG | exact vcH | (intro _; omega) | exact (fun _ h => h) | (intro h; simp at h; omega) | (simp only [List.length_cons, List.length_nil, List.length_append, List.length_map, List.length_set, List.length_replicate]; omega) | (intro h; simp [h]; done) | exact ⟨by omega, by omega, hq.ok⟩ | exact ⟨by omega, by omega⟩ | (constructor <;> omega) | (intro _; constructor <;> omega) | (intro _; omega) | done
          ·
           refine ap ?_ az
           first | omega | exact id | exact vcNot | exact vcG | exact vcH | (intro _; omega) | exact (fun _ h => h) | (intro h; simp at h; omega) | (simp only [List.length_cons, List.length_nil, List.length_append, List.length_map, List.length_set, List.length_replicate]; omega) | (intro h; simp [h]; done) | exact ⟨by omega, by omega, hq.ok⟩ | exact ⟨by omega, by omega⟩ | (constructor <;> omega) | (intro _; constructor <;> omega) | (intro _; omega) | done
          ·
           refine ap ?_ az
           first | omega | exact id | exact vcNot | exact vcG | exact vcH | (intro _; omega) | exact (fun _ h => h) | (intro h; simp at h; omega) | (simp only [List.length_cons, List.length_nil, List.length_append, List.length_map, List.length_set, List.length_replicate]; omega) | (intro h; simp [h]; done) | exact ⟨by omega, by omega, hq.ok⟩ | exact ⟨by omega, by omega⟩ | (constructor <;> omega) | (intro _; constructor <;> omega) | (intro _; omega) | done
          ·
           show (k + 1) ≤ (c.getD i []).length
           omega
          ·
           try dsimp only
           omega
         ·
          have hlk := Cn.lk_c0 (by omega) hm h4
          refine Zk (Fb (Ft (Tq hcx [] [9] [50] [] [Fit ((k : Int) + 1)] ?_ (Lr (k + 1) ?_ ?_ (Ex 7 (congrArg AV.int (show (Cn.lk (Cn.ps c (Cn.rnd c a n) i).1 (c.getD i []) k).1 = (Cn.lk (Cn.ps c (Cn.rnd c a n) i).1 (c.getD i []) (k + 1)).1 from (by (rw [hlk]; done)))) (Ex 8 (congrArg AV.int (show 3 = (Cn.lk (Cn.ps c (Cn.rnd c a n) i).1 (c.getD i []) (k + 1)).2 from (by (rw [hlk]; done)))) (Ex 9 (congrArg AV.int (show ((k : Int) + 1) = ((k + 1) : Int) from (by first | rfl | omega | (simp; done)))) Eb))) Hb))))
          ·
           refine ap ?_ az
           first | omega | exact id | exact vcNot | exact vcG | exact vcH | (intro _; omega) | exact (fun _ h => h) | (intro h; simp at h; omega) | (simp only [List.length_cons, List.length_nil, List.length_append, List.length_map, List.length_set, List.length_replicate]; omega) | (intro h; simp [h]; done) | exact ⟨by omega, by omega, hq.ok⟩ | exact ⟨by omega, by omega⟩ | (constructor <;> omega) | (intro _; constructor <;> omega) | (intro _; omega) | done
          ·
           show (k + 1) ≤ (c.getD i []).length
           omega
          ·
           try dsimp only
           omega
        ·
         have hm := Cn.lk_t0 (m := (Cn.lk (Cn.ps c (Cn.rnd c a n) i).1 (c.getD i []) k).2) h3
         refine Zk (Ft (Sq hcx [] [50] [37, 10] [] [(((Cn.valA ((Cn.ps c (Cn.rnd c a n) i).1) ((c.getD i []).getD k 0)) == 0) = true → (((Cn.valA ((Cn.ps c (Cn.rnd c a n) i).1) ((c.getD i []).getD k 0)) == 0) = true)), (((Cn.valA ((Cn.ps c (Cn.rnd c a n) i).1) ((c.getD i []).getD k 0)) == 0) = true → (((Cn.valA ((Cn.ps c (Cn.rnd c a n) i).1) ((c.getD i []).getD k 0)) == 0) = true)), (((Cn.valA ((Cn.ps c (Cn.rnd c a n) i).1) ((c.getD i []).getD k 0)) == 0) = true → ((0 : Int) ≤ (i : Int) ∧ (i : Int) < (c.length : Int))), (((Cn.valA ((Cn.ps c (Cn.rnd c a n) i).1) ((c.getD i []).getD k 0)) == 0) = true → (((Cn.valA ((Cn.ps c (Cn.rnd c a n) i).1) ((c.getD i []).getD k 0)) == 0) = true)), (((Cn.valA ((Cn.ps c (Cn.rnd c a n) i).1) ((c.getD i []).getD k 0)) == 0) = true → (((Cn.valA ((Cn.ps c (Cn.rnd c a n) i).1) ((c.getD i []).getD k 0)) == 0) = true)), (((Cn.valA ((Cn.ps c (Cn.rnd c a n) i).1) ((c.getD i []).getD k 0)) == 0) = true → (((Cn.valA ((Cn.ps c (Cn.rnd c a n) i).1) ((c.getD i []).getD k 0)) == 0) = true)), (((Cn.valA ((Cn.ps c (Cn.rnd c a n) i).1) ((c.getD i []).getD k 0)) == 0) = true → ((0 : Int) ≤ (k : Int) ∧ (k : Int) < ((c.getD i []).length : Int))), (((Cn.valA ((Cn.ps c (Cn.rnd c a n) i).1) ((c.getD i []).getD k 0)) == 0) = true → (((Cn.valA ((Cn.ps c (Cn.rnd c a n) i).1) ((c.getD i []).getD k 0)) == 0) = true)), (((Cn.valA ((Cn.ps c (Cn.rnd c a n) i).1) ((c.getD i []).getD k 0)) == 0) = true → (((Cn.valA ((Cn.ps c (Cn.rnd c a n) i).1) ((c.getD i []).getD k 0)) == 0) = true)), (((Cn.valA ((Cn.ps c (Cn.rnd c a n) i).1) ((c.getD i []).getD k 0)) == 0) = true → (((Cn.valA ((Cn.ps c (Cn.rnd c a n) i).1) ((c.getD i []).getD k 0)) == 0) = true)), (((Cn.valA ((Cn.ps c (Cn.rnd c a n) i).1) ((c.getD i []).getD k 0)) == 0) = true → ((Cn.valA ((Cn.ps c (Cn.rnd c a n) i).1) ((c.getD i []).getD k 0)) == 0) = true)] ?_ (Zi (b := ((Cn.valA ((Cn.ps c (Cn.rnd c a n) i).1) ((c.getD i []).getD k 0)) == 0) && (((c.getD i []).getD k 0) != ((Cn.lk (Cn.ps c (Cn.rnd c a n) i).1 (c.getD i []) k).1))) (fun h5 => ?_) fun h5 => ?_)))
         ·
          refine ap ?_ (ap ?_ (ap ?_ (ap ?_ (ap ?_ (ap ?_ (ap ?_ (ap ?_ (ap ?_ (ap ?_ (ap (by exact id) az)))))))))) <;>
           first | omega | exact id | exact vcNot | exact vcG | exact vcH | (intro _; omega) | exact (fun _ h => h) | (intro h; simp at h; omega) | (simp only [List.length_cons, List.length_nil, List.length_append, List.length_map, List.length_set, List.length_replicate]; omega) | (intro h; simp [h]; done) | exact ⟨by omega, by omega, hq.ok⟩ | exact ⟨by omega, by omega⟩ | (constructor <;> omega) | (intro _; constructor <;> omega) | (intro _; omega) | done
         ·
          have hlk := Cn.lk_c1 (by omega) hm h5
          refine Sq hcx [] [7] [50] [] [((0 : Int) ≤ (i : Int) ∧ (i : Int) < (c.length : Int)), ((0 : Int) ≤ (k : Int) ∧ (k : Int) < ((c.getD i []).length : Int))] ?_ (Tq hcx [] [8] [] [] [Fit ((Cn.lk (Cn.ps c (Cn.rnd c a n) i).1 (c.getD i []) k).2 + 1)] ?_ (Fb (Ft (Tq hcx [] [9] [] [] [Fit ((k : Int) + 1)] ?_ (Lr (k + 1) ?_ ?_ (Ex 7 (congrArg AV.int (show ((c.getD i []).getD k 0) = (Cn.lk (Cn.ps c (Cn.rnd c a n) i).1 (c.getD i []) (k + 1)).1 from (by (rw [hlk]; done)))) (Ex 8 (congrArg AV.int (show ((Cn.lk (Cn.ps c (Cn.rnd c a n) i).1 (c.getD i []) k).2 + 1) = (Cn.lk (Cn.ps c (Cn.rnd c a n) i).1 (c.getD i []) (k + 1)).2 from (by (rw [hlk]; done)))) (Ex 9 (congrArg AV.int (show ((k : Int) + 1) = ((k + 1) : Int) from (by first | rfl | omega | (simp; done)))) Eb))) Hb)))))
          ·
           refine ap ?_ (ap ?_ az) <;>
            first | omega | exact id | exact vcNot | exact vcG | exact vcH | (intro _; omega) | exact (fun _ h => h) | (intro h; simp at h; omega) | (simp only [List.length_cons, List.length_nil, List.length_append, List.length_map, List.length_set, List.length_replicate]; omega) | (intro h; simp [h]; done) | exact ⟨by omega, by omega, hq.ok⟩ | exact ⟨by omega, by omega⟩ | (constructor <;> omega) | (intro _; constructor <;> omega) | (intro _; omega) | done
          ·
           refine ap ?_ az
           first | omega | exact id | exact vcNot | exact vcG | exact vcH | (intro _; omega) | exact (fun _ h => h) | (intro h; simp at h; omega) | (simp only [List.length_cons, List.length_nil, List.length_append, List.length_map, List.length_set, List.length_replicate]; omega) | (intro h; simp [h]; done) | exact ⟨by omega, by omega, hq.ok⟩ | exact ⟨by omega, by omega⟩ | (constructor <;> omega) | (intro _; constructor <;> omega) | (intro _; omega) | done
          ·
           refine ap ?_ az
           first | omega | exact id | exact vcNot | exact vcG | exact vcH | (intro _; omega) | exact (fun _ h => h) | (intro h; simp at h; omega) | (simp only [List.length_cons, List.length_nil, List.length_append, List.length_map, List.length_set, List.length_replicate]; omega) | (intro h; simp [h]; done) | exact ⟨by omega, by omega, hq.ok⟩ | exact ⟨by omega, by omega⟩ | (constructor <;> omega) | (intro _; constructor <;> omega) | (intro _; omega) | done
          ·
           show (k + 1) ≤ (c.getD i []).length
           omega
          ·
           try dsimp only
           omega
         ·
          have hlk := Cn.lk_c0 (by omega) hm h5
          refine Zk (Fb (Ft (Tq hcx [] [9] [50] [] [Fit ((k : Int) + 1)] ?_ (Lr (k + 1) ?_ ?_ (Ex 7 (congrArg AV.int (show (Cn.lk (Cn.ps c (Cn.rnd c a n) i).1 (c.getD i []) k).1 = (Cn.lk (Cn.ps c (Cn.rnd c a n) i).1 (c.getD i []) (k + 1)).1 from (by (rw [hlk]; done)))) (Ex 8 (congrArg AV.int (show (Cn.lk (Cn.ps c (Cn.rnd c a n) i).1 (c.getD i []) k).2 = (Cn.lk (Cn.ps c (Cn.rnd c a n) i).1 (c.getD i []) (k + 1)).2 from (by (rw [hlk]; done)))) (Ex 9 (congrArg AV.int (show ((k : Int) + 1) = ((k + 1) : Int) from (by first | rfl | omega | (simp; done)))) Eb))) Hb))))
          ·
           refine ap ?_ az
           first | omega | exact id | exact vcNot | exact vcG | exact vcH | (intro _; omega) | exact (fun _ h => h) | (intro h; simp at h; omega) | (simp only [List.length_cons, List.length_nil, List.length_append, List.length_map, List.length_set, List.length_replicate]; omega) | (intro h; simp [h]; done) | exact ⟨by omega, by omega, hq.ok⟩ | exact ⟨by omega, by omega⟩ | (constructor <;> omega) | (intro _; constructor <;> omega) | (intro _; omega) | done
          ·
           show (k + 1) ≤ (c.getD i []).length
           omega
          ·
           try dsimp only
           omega
       ·
        have e9 : (Cn.lk (Cn.ps c (Cn.rnd c a n) i).1 (c.getD i []) k) = Cn.lkL (Cn.ps c (Cn.rnd c a n) i).1 (c.getD i []) := by rw [show k = (c.getD i []).length by omega]
        refine Ze (Fe (Fe (Fs (Ft (Zs (Sz hcx [] [61] [24, 9] [] (Zu (a := ((Cn.lk (Cn.ps c (Cn.rnd c a n) i).1 (c.getD i []) k).2)) (b := 0) (fun h6 => ?_) fun h6 => ?_)))))))
        ·
         have h61_ : (Cn.lkL (Cn.ps c (Cn.rnd c a n) i).1 (c.getD i [])).2 = 0 := by rw [← e9]; exact h6
         have hr := Cn.run_conf hI9 hg (by omega) hz h61_
         exact Sz hcx [] [4] [61, 0, 1, 5, 6, 7, 8] [] (Zr (Fr (Fk (Fr (Fr (Fk (Fk (Fr (Fk (Fr (Rv hcx (congrArg AV.bool (show false = (Cn.spr c a).1 from (by first | (rw [hr]; done) | (rw [hr])))) [true] (consO (congrArg some (congrArg (fun x => AObj.row 3 (.ints x)) (show (Cn.ps c (Cn.rnd c a n) i).1 = (Cn.spr c a).2 from (by first | (rw [hr]; done) | (rw [hr]))))) rfl))))))))))))
        ·
         have h61_ : (Cn.lkL (Cn.ps c (Cn.rnd c a n) i).1 (c.getD i [])).2 ≠ 0 := by rw [← e9]; exact h6
         refine Zk (Ft (Sz hcx [] [63] [61, 8] [] (Zu (a := ((Cn.lk (Cn.ps c (Cn.rnd c a n) i).1 (c.getD i []) k).2)) (b := 1) (fun h7 => ?_) fun h7 => ?_)))
         ·
          have h63_ : (Cn.lkL (Cn.ps c (Cn.rnd c a n) i).1 (c.getD i [])).2 = 1 := by rw [← e9]; exact h7
          have hps := Cn.ps_unit (by omega) hz h63_
          rw [← e9] at hps
          obtain ⟨u1, u2, _⟩ := Cn.lk_unit (F := fun _ => true) hq.ok hx0 h63_
          have u3 := hc _ (Cn.getD_memL (d := ([] : List Int)) (k := i) (by omega)) _ u1
          rw [← e9] at u3
          refine Sq hcx [(0, .to 0)] [] [63, 5, 7] [] [(((Cn.ps c (Cn.rnd c a n) i).1).length ≤ 1000000 ∧ ((Cn.lk (Cn.ps c (Cn.rnd c a n) i).1 (c.getD i []) k).1).natAbs < ((Cn.ps c (Cn.rnd c a n) i).1).length)] ?_ (Tz hcx [] [5] [] [] (Fb (Ft (Tq hcx [] [6] [] [] [Fit ((i : Int) + 1)] ?_ (Lr (i + 1) ?_ ?_ (Ex 5 (congrArg AV.bool (show true = (Cn.ps c (Cn.rnd c a n) (i + 1)).2.1 from (by (rw [hps]; done)))) (Ex 6 (congrArg AV.int (show ((i : Int) + 1) = ((i + 1) : Int) from (by first | rfl | omega | (simp; done)))) Eb)) (Hx 0 (congrArg (fun x => AObj.row 3 (.ints x)) (show (Cn.setV ((Cn.ps c (Cn.rnd c a n) i).1) ((Cn.lk (Cn.ps c (Cn.rnd c a n) i).1 (c.getD i []) k).1)) = (Cn.ps c (Cn.rnd c a n) (i + 1)).1 from (by (rw [hps]; done)))) Hb))))))
          ·
           refine ap ?_ az
           first | omega | exact id | exact vcNot | exact vcG | exact vcH | (intro _; omega) | exact (fun _ h => h) | (intro h; simp at h; omega) | (simp only [List.length_cons, List.length_nil, List.length_append, List.length_map, List.length_set, List.length_replicate]; omega) | (intro h; simp [h]; done) | exact ⟨by omega, by omega, hq.ok⟩ | exact ⟨by omega, by omega⟩ | (constructor <;> omega) | (intro _; constructor <;> omega) | (intro _; omega) | done
          ·
           refine ap ?_ az
           first | omega | exact id | exact vcNot | exact vcG | exact vcH | (intro _; omega) | exact (fun _ h => h) | (intro h; simp at h; omega) | (simp only [List.length_cons, List.length_nil, List.length_append, List.length_map, List.length_set, List.length_replicate]; omega) | (intro h; simp [h]; done) | exact ⟨by omega, by omega, hq.ok⟩ | exact ⟨by omega, by omega⟩ | (constructor <;> omega) | (intro _; constructor <;> omega) | (intro _; omega) | done
          ·
           exact ⟨by omega, by first | (rw [hps]; done) | (rw [hps]; exact hz)⟩
          ·
           show c.length - (i + 1) < c.length - i
           omega
         ·
          have h63_ : (Cn.lkL (Cn.ps c (Cn.rnd c a n) i).1 (c.getD i [])).2 ≠ 1 := by rw [← e9]; exact h7
          have hps := Cn.ps_skip (by omega) hz h61_ h63_
          refine Zk (Fb (Ft (Tq hcx [] [6] [63, 7] [] [Fit ((i : Int) + 1)] ?_ (Lr (i + 1) ?_ ?_ (Ex 5 (congrArg AV.bool (show (Cn.ps c (Cn.rnd c a n) i).2.1 = (Cn.ps c (Cn.rnd c a n) (i + 1)).2.1 from (by (rw [hps]; done)))) (Ex 6 (congrArg AV.int (show ((i : Int) + 1) = ((i + 1) : Int) from (by first | rfl | omega | (simp; done)))) Eb)) (Hx 0 (congrArg (fun x => AObj.row 3 (.ints x)) (show (Cn.ps c (Cn.rnd c a n) i).1 = (Cn.ps c (Cn.rnd c a n) (i + 1)).1 from (by (rw [hps]; done)))) Hb)))))
          ·
           refine ap ?_ az
           first | omega | exact id | exact vcNot | exact vcG | exact vcH | (intro _; omega) | exact (fun _ h => h) | (intro h; simp at h; omega) | (simp only [List.length_cons, List.length_nil, List.length_append, List.length_map, List.length_set, List.length_replicate]; omega) | (intro h; simp [h]; done) | exact ⟨by omega, by omega, hq.ok⟩ | exact ⟨by omega, by omega⟩ | (constructor <;> omega) | (intro _; constructor <;> omega) | (intro _; omega) | done
          ·
           exact ⟨by omega, by first | (rw [hps]; done) | (rw [hps]; exact hz)⟩
          ·
           show c.length - (i + 1) < c.length - i
           omega
     ·
      have h15_ : i = c.length := by omega
      rw [h15_] at hz
      have hnx := Cn.run_next hc hI9 hg hz
      refine Ze (Fe (Fe (Fs (Fb (Lr (n + 1) ?_ ?_ (Ex 5 (congrArg AV.bool (show (Cn.ps c (Cn.rnd c a n) i).2.1 = (Cn.agn c a (n + 1)) from (by (rw [h15_]; rfl)))) Eb) (Hx 0 (congrArg (fun x => AObj.row 3 (.ints x)) (show (Cn.ps c (Cn.rnd c a n) i).1 = (Cn.rnd c a (n + 1)) from (by (rw [h15_]; rfl)))) Hb))))))
      ·
       show Cn.RunI c a (n + 1)
       exact hnx
      ·
       try dsimp only
       omega
   ·
    have hr := hI.fin h0
    exact Ze (Fe (Fe (Fs (Ft (Sz hcx [] [4] [11, 0, 1] [] (Zr (Rv hcx (congrArg AV.bool (show true = (Cn.spr c a).1 from (by first | (rw [hr]; done) | (rw [hr])))) [true] (consO (congrArg some (congrArg (fun x => AObj.row 3 (.ints x)) (show (Cn.rnd c a n) = (Cn.spr c a).2 from (by first | (rw [hr]; done) | (rw [hr]))))) rfl))))))))
 ·
  cases hσ
def rCan18_σ (nn : Nat) : CtF
  | [.im (.ls (.intss c)), .im (.ls (.ints a))], [] => some (c.length ≤ 1000000000 ∧ (∀ l ∈ c, l.length ≤ 1000000000) ∧ a.length ≤ 1000000 ∧ Cn.OkC a.length c ∧ Cn.OkA a ∧ Cn.zer a < nn, .bool (Cn.satE c a), [])
  | _, _ => none
def cx_rCan18 (nn : Nat) : Cx := ⟨tyCan, [(99, (coeF [.id, .ld (.ints [])] rVal18_σ)), (100, rSet18_σ), (48, (coeF [.ld (.intss []), .id] rSpr18_σ)), (19, (coeF [.ld (.intss []), .ld (.ints [])] (rCan18_σ nn)))], true⟩
theorem cx_rCan18_ok (nn : Nat) (hR : Sound Tryz.prog 19 (rCan18_σ nn)) : CxOk Tryz.prog (cx_rCan18 nn) := cx_ok tyCan_ok ⟨(rVal18_sound.coe [.id, .ld (.ints [])] rfl), rSet18_sound, (rSpr18_sound.coe [.ld (.intss []), .id] rfl), (hR.coe [.ld (.intss []), .ld (.ints [])] rfl), trivial⟩
set_option maxRecDepth 4000 in
set_option maxHeartbeats 2000000 in
theorem rCan18_step (nn : Nat) (hR : Sound Tryz.prog 19 (rCan18_σ nn)) : Sound Tryz.prog 19 (rCan18_σ (nn + 1)) := by
 refine Sw (cx := (cx_rCan18 nn)) Tryz.f19 Tryz.func19 ?_
 intro wW wO wβ G0 args os p r outs hσ hp
 have hcx := cx_rCan18_ok nn hR
 unfold rCan18_σ at hσ
 split at hσ
 ·
  rename_i c a
  cases hσ
  refine ⟨by kernel_rfl, ?_⟩
  obtain ⟨hm1, hm2, hm3, hc, ha, hz⟩ := hp
  have hq := Cn.sprI ha hc
  have hln := hq.len
  have hzl := hq.zle
  have hcb : Cn.OkC (Cn.spr c a).2.length c := by rw [hln]; exact hc
  refine Sz hcx [] [] [] [] (Sq hcx [(1002, .to 210)] [5] [1] [] [((([] : List Int).length + a.length) * 8 ≤ 140737488355328)] ?_ (Zs (Sq hcx [(210, .to 210)] [14] [] [] [(c.length ≤ 1000000000 ∧ (∀ l ∈ c, l.length ≤ 1000000000) ∧ a.length ≤ 1000000 ∧ Cn.OkC a.length c ∧ Cn.OkA a)] ?_ (Zi (b := !((Cn.spr c a).1)) (fun h0 => ?_) fun h0 => ?_))))
  ·
   refine ap ?_ az
   first | omega | exact id | exact vcNot | exact vcG | exact vcH | (intro _; omega) | exact (fun _ h => h) | (intro h; simp at h; omega) | (simp only [List.length_cons, List.length_nil, List.length_append, List.length_map, List.length_set, List.length_replicate]; omega) | (intro h; simp [h]; done) | exact ⟨hm1, hm2, hm3, hc, ha⟩ | exact ⟨hm1, hm2, by rw [List.length_set]; omega, by rw [List.length_set]; exact hcb, o1, by omega⟩ | exact ⟨hm1, hm2, by rw [List.length_set, List.length_set]; omega, by rw [List.length_set, List.length_set]; exact hcb, by rw [List.set_set]; exact o2, by rw [List.set_set]; omega⟩ | (constructor <;> omega) | (rw [List.length_set]; constructor <;> omega) | done
  ·
   refine ap ?_ az
   first | omega | exact id | exact vcNot | exact vcG | exact vcH | (intro _; omega) | exact (fun _ h => h) | (intro h; simp at h; omega) | (simp only [List.length_cons, List.length_nil, List.length_append, List.length_map, List.length_set, List.length_replicate]; omega) | (intro h; simp [h]; done) | exact ⟨hm1, hm2, hm3, hc, ha⟩ | exact ⟨hm1, hm2, by rw [List.length_set]; omega, by rw [List.length_set]; exact hcb, o1, by omega⟩ | exact ⟨hm1, hm2, by rw [List.length_set, List.length_set]; omega, by rw [List.length_set, List.length_set]; exact hcb, by rw [List.set_set]; exact o2, by rw [List.set_set]; omega⟩ | (constructor <;> omega) | (rw [List.length_set]; constructor <;> omega) | done
  ·
   have hr := Cn.can_no ha hc (Cn.bnT h0)
   exact Sz hcx [] [4] [14, 5, 0] [210] (Zr (Fr (Rv hcx (congrArg AV.bool (show false = (Cn.satE c a) from (by first | exact hr.symm | (rw [hsm, htw, h35_, Bool.true_or]; done) | (rw [hsm, htw, h35_, Bool.false_or]; done)))) [] rfl)))
  ·
   have h14_ := Cn.bnF h0
   have hsm := Cn.can_same ha hc
   refine Zk (Ft (Sz hcx [] [6] [14] [] (Zs (Sq hcx [] [7] [] [] [Fit ((((Cn.spr c a).2).length : Int) - 1)] ?_ (Zb (Lp (X := Nat) (fun x0 => x0 + 1 ≤ (Cn.spr c a).2.length ∨ x0 = 0) (fun x0 => ([(0, .intss c), (5, .row 210), (6, .int (Cn.vdn (Cn.spr c a).2 x0)), (7, .int ((((Cn.spr c a).2.length : Int) - 1) - x0))], [(210, .row 3 (.ints ((Cn.spr c a).2)))])) (fun x0 => (Cn.spr c a).2.length - x0) (0) ?_ (Ex 7 (congrArg AV.int (show ((((Cn.spr c a).2).length : Int) - 1) = ((((Cn.spr c a).2.length : Int) - 1) - 0) from (by omega))) Eb) Hb fun n hI => ?_))))))
   ·
    refine ap ?_ az
    first | omega | exact id | exact vcNot | exact vcG | exact vcH | (intro _; omega) | exact (fun _ h => h) | (intro h; simp at h; omega) | (simp only [List.length_cons, List.length_nil, List.length_append, List.length_map, List.length_set, List.length_replicate]; omega) | (intro h; simp [h]; done) | exact ⟨hm1, hm2, hm3, hc, ha⟩ | exact ⟨hm1, hm2, by rw [List.length_set]; omega, by rw [List.length_set]; exact hcb, o1, by omega⟩ | exact ⟨hm1, hm2, by rw [List.length_set, List.length_set]; omega, by rw [List.length_set, List.length_set]; exact hcb, by rw [List.set_set]; exact o2, by rw [List.set_set]; omega⟩ | (constructor <;> omega) | (rw [List.length_set]; constructor <;> omega) | done
   ·
    show 0 + 1 ≤ (Cn.spr c a).2.length ∨ 0 = 0
    exact .inr rfl
   ·
    try dsimp only at hI
    have hix : ((((Cn.spr c a).2.length : Int) - 1) - n).toNat = (Cn.spr c a).2.length - 1 - n := by omega
    refine Zs (Sz hcx [] [19] [] [] (Zj (p := (((((Cn.spr c a).2.length : Int) - 1) - n) > 0)) (fun h1 => ?_) fun h1 => ?_))
    ·
     have h19_ := h1
     have hix9 : ((((Cn.spr c a).2.length : Int) - 1) - n) = (((Cn.spr c a).2.length - 1 - n : Nat) : Int) := by omega
     refine Zk (Ft (Zs (Zb (Sq hcx [] [26] [19] [] [((0 : Int) ≤ ((((Cn.spr c a).2.length : Int) - 1) - n) ∧ ((((Cn.spr c a).2.length : Int) - 1) - n) < (((Cn.spr c a).2).length : Int)), ((((((Cn.spr c a).2.length : Int) - 1) - n).toNat) < ((Cn.spr c a).2).length)] ?_ (Zu (a := (((Cn.spr c a).2).getD (((((Cn.spr c a).2.length : Int) - 1) - n).toNat) 0)) (b := 0) (fun h2 => ?_) fun h2 => ?_)))))
     ·
      refine ap ?_ (ap ?_ az) <;>
       first | omega | exact id | exact vcNot | exact vcG | exact vcH | (intro _; omega) | exact (fun _ h => h) | (intro h; simp at h; omega) | (simp only [List.length_cons, List.length_nil, List.length_append, List.length_map, List.length_set, List.length_replicate]; omega) | (intro h; simp [h]; done) | exact ⟨hm1, hm2, hm3, hc, ha⟩ | exact ⟨hm1, hm2, by rw [List.length_set]; omega, by rw [List.length_set]; exact hcb, o1, by omega⟩ | exact ⟨hm1, hm2, by rw [List.length_set, List.length_set]; omega, by rw [List.length_set, List.length_set]; exact hcb, by rw [List.set_set]; exact o2, by rw [List.set_set]; omega⟩ | (constructor <;> omega) | (rw [List.length_set]; constructor <;> omega) | done
     ·
      have hvd := Cn.vdn_1 (b := (Cn.spr c a).2) (n := n) (by rw [← hix]; exact h2)
      refine Tz hcx [] [6] [26] [] (Fb (Ft (Tq hcx [] [7] [] [] [Fit (((((Cn.spr c a).2.length : Int) - 1) - n) - 1)] ?_ (Lr (n + 1) ?_ ?_ (Ex 6 (congrArg AV.int (show ((((Cn.spr c a).2.length : Int) - 1) - n) = (Cn.vdn (Cn.spr c a).2 (n + 1)) from (by first | (rw [hvd, hix9]; done) | (rw [hvd]; done)))) (Ex 7 (congrArg AV.int (show (((((Cn.spr c a).2.length : Int) - 1) - n) - 1) = ((((Cn.spr c a).2.length : Int) - 1) - (n + 1)) from (by omega))) Eb)) Hb))))
      ·
       refine ap ?_ az
       first | omega | exact id | exact vcNot | exact vcG | exact vcH | (intro _; omega) | exact (fun _ h => h) | (intro h; simp at h; omega) | (simp only [List.length_cons, List.length_nil, List.length_append, List.length_map, List.length_set, List.length_replicate]; omega) | (intro h; simp [h]; done) | exact ⟨hm1, hm2, hm3, hc, ha⟩ | exact ⟨hm1, hm2, by rw [List.length_set]; omega, by rw [List.length_set]; exact hcb, o1, by omega⟩ | exact ⟨hm1, hm2, by rw [List.length_set, List.length_set]; omega, by rw [List.length_set, List.length_set]; exact hcb, by rw [List.set_set]; exact o2, by rw [List.set_set]; omega⟩ | (constructor <;> omega) | (rw [List.length_set]; constructor <;> omega) | done
      ·
       exact .inl (by omega)
      ·
       try dsimp only
       omega
     ·
      have hvd := Cn.vdn_0 (b := (Cn.spr c a).2) (n := n) (by rw [← hix]; exact h2)
      refine Zk (Fb (Ft (Tq hcx [] [7] [26] [] [Fit (((((Cn.spr c a).2.length : Int) - 1) - n) - 1)] ?_ (Lr (n + 1) ?_ ?_ (Ex 6 (congrArg AV.int (show (Cn.vdn (Cn.spr c a).2 n) = (Cn.vdn (Cn.spr c a).2 (n + 1)) from (by first | (rw [hvd, hix9]; done) | (rw [hvd]; done)))) (Ex 7 (congrArg AV.int (show (((((Cn.spr c a).2.length : Int) - 1) - n) - 1) = ((((Cn.spr c a).2.length : Int) - 1) - (n + 1)) from (by omega))) Eb)) Hb))))
      ·
       refine ap ?_ az
       first | omega | exact id | exact vcNot | exact vcG | exact vcH | (intro _; omega) | exact (fun _ h => h) | (intro h; simp at h; omega) | (simp only [List.length_cons, List.length_nil, List.length_append, List.length_map, List.length_set, List.length_replicate]; omega) | (intro h; simp [h]; done) | exact ⟨hm1, hm2, hm3, hc, ha⟩ | exact ⟨hm1, hm2, by rw [List.length_set]; omega, by rw [List.length_set]; exact hcb, o1, by omega⟩ | exact ⟨hm1, hm2, by rw [List.length_set, List.length_set]; omega, by rw [List.length_set, List.length_set]; exact hcb, by rw [List.set_set]; exact o2, by rw [List.set_set]; omega⟩ | (constructor <;> omega) | (rw [List.length_set]; constructor <;> omega) | done
      ·
       exact .inl (by omega)
      ·
       try dsimp only
       omega
    ·
     have h19_ := h1
     have hvv := Cn.vd_all (b := (Cn.spr c a).2) hI h19_
     refine Ze (Fe (Fe (Fs (Ft (Zs (Sz hcx [] [29] [19, 7] [] (Zu (a := (Cn.vdn (Cn.spr c a).2 n)) (b := 0) (fun h3 => ?_) fun h3 => ?_)))))))
     ·
      have hr := Cn.can_yes ha hc h14_ (Cn.vd_no hvv h3)
      exact Sz hcx [] [4] [29, 0, 5, 6] [210] (Zr (Fr (Rv hcx (congrArg AV.bool (show true = (Cn.satE c a) from (by first | exact hr.symm | (rw [hsm, htw, h35_, Bool.true_or]; done) | (rw [hsm, htw, h35_, Bool.false_or]; done)))) [] rfl)))
     ·
      obtain ⟨v1, v2, v3⟩ := Cn.vd_is hvv h3
      have htw := Cn.can_two (c := c) (b := (Cn.spr c a).2) (v := (Cn.vdn (Cn.spr c a).2 n).toNat) hq.ok hcb (by omega) v3
      have z1 := Cn.zer_set (a := (Cn.spr c a).2) (i := (Cn.vdn (Cn.spr c a).2 n).toNat) (y := 2) (by omega) v3 (by decide)
      have o1 := Cn.ok_set hq.ok (i := (Cn.vdn (Cn.spr c a).2 n).toNat) (y := 2) (by omega) (by decide)
      have z2 := Cn.zer_set (a := (Cn.spr c a).2) (i := (Cn.vdn (Cn.spr c a).2 n).toNat) (y := 1) (by omega) v3 (by decide)
      have o2 := Cn.ok_set hq.ok (i := (Cn.vdn (Cn.spr c a).2 n).toNat) (y := 1) (by omega) (by decide)
      refine Zk (Ft (Sq hcx [(210, .to 210)] [] [29] [] [((0 : Int) ≤ (Cn.vdn (Cn.spr c a).2 n) ∧ (Cn.vdn (Cn.spr c a).2 n) < (((Cn.spr c a).2).length : Int)), (((Cn.vdn (Cn.spr c a).2 n).toNat) < ((Cn.spr c a).2).length)] ?_ (Zs (Sq hcx [] [35] [] [] [(c.length ≤ 1000000000 ∧ (∀ l ∈ c, l.length ≤ 1000000000) ∧ (((Cn.spr c a).2).set ((Cn.vdn (Cn.spr c a).2 n).toNat) 2).length ≤ 1000000 ∧ Cn.OkC (((Cn.spr c a).2).set ((Cn.vdn (Cn.spr c a).2 n).toNat) 2).length c ∧ Cn.OkA (((Cn.spr c a).2).set ((Cn.vdn (Cn.spr c a).2 n).toNat) 2) ∧ Cn.zer (((Cn.spr c a).2).set ((Cn.vdn (Cn.spr c a).2 n).toNat) 2) < nn)] ?_ (Zi (b := Cn.satE c (((Cn.spr c a).2).set ((Cn.vdn (Cn.spr c a).2 n).toNat) 2)) (fun h4 => ?_) fun h4 => ?_)))))
      ·
       refine ap ?_ (ap ?_ az) <;>
        first | omega | exact id | exact vcNot | exact vcG | exact vcH | (intro _; omega) | exact (fun _ h => h) | (intro h; simp at h; omega) | (simp only [List.length_cons, List.length_nil, List.length_append, List.length_map, List.length_set, List.length_replicate]; omega) | (intro h; simp [h]; done) | exact ⟨hm1, hm2, hm3, hc, ha⟩ | exact ⟨hm1, hm2, by rw [List.length_set]; omega, by rw [List.length_set]; exact hcb, o1, by omega⟩ | exact ⟨hm1, hm2, by rw [List.length_set, List.length_set]; omega, by rw [List.length_set, List.length_set]; exact hcb, by rw [List.set_set]; exact o2, by rw [List.set_set]; omega⟩ | (constructor <;> omega) | (rw [List.length_set]; constructor <;> omega) | done
      ·
       refine ap ?_ az
       first | omega | exact id | exact vcNot | exact vcG | exact vcH | (intro _; omega) | exact (fun _ h => h) | (intro h; simp at h; omega) | (simp only [List.length_cons, List.length_nil, List.length_append, List.length_map, List.length_set, List.length_replicate]; omega) | (intro h; simp [h]; done) | exact ⟨hm1, hm2, hm3, hc, ha⟩ | exact ⟨hm1, hm2, by rw [List.length_set]; omega, by rw [List.length_set]; exact hcb, o1, by omega⟩ | exact ⟨hm1, hm2, by rw [List.length_set, List.length_set]; omega, by rw [List.length_set, List.length_set]; exact hcb, by rw [List.set_set]; exact o2, by rw [List.set_set]; omega⟩ | (constructor <;> omega) | (rw [List.length_set]; constructor <;> omega) | done
      ·
       have h35_ := h4
       exact Sz hcx [] [4] [35, 0, 5, 6] [210] (Zr (Fr (Rv hcx (congrArg AV.bool (show true = (Cn.satE c a) from (by first | exact hr.symm | (rw [hsm, htw, h35_, Bool.true_or]; done) | (rw [hsm, htw, h35_, Bool.false_or]; done)))) [] rfl)))
      ·
       have h35_ := h4
       refine Zk (Ft (Sq hcx [(210, .to 210)] [] [35, 6] [] [((0 : Int) ≤ (Cn.vdn (Cn.spr c a).2 n) ∧ (Cn.vdn (Cn.spr c a).2 n) < ((((Cn.spr c a).2).set ((Cn.vdn (Cn.spr c a).2 n).toNat) 2).length : Int)), (((Cn.vdn (Cn.spr c a).2 n).toNat) < (((Cn.spr c a).2).set ((Cn.vdn (Cn.spr c a).2 n).toNat) 2).length)] ?_ (Sq hcx [] [4] [0, 5] [210] [(c.length ≤ 1000000000 ∧ (∀ l ∈ c, l.length ≤ 1000000000) ∧ ((((Cn.spr c a).2).set ((Cn.vdn (Cn.spr c a).2 n).toNat) 2).set ((Cn.vdn (Cn.spr c a).2 n).toNat) 1).length ≤ 1000000 ∧ Cn.OkC ((((Cn.spr c a).2).set ((Cn.vdn (Cn.spr c a).2 n).toNat) 2).set ((Cn.vdn (Cn.spr c a).2 n).toNat) 1).length c ∧ Cn.OkA ((((Cn.spr c a).2).set ((Cn.vdn (Cn.spr c a).2 n).toNat) 2).set ((Cn.vdn (Cn.spr c a).2 n).toNat) 1) ∧ Cn.zer ((((Cn.spr c a).2).set ((Cn.vdn (Cn.spr c a).2 n).toNat) 2).set ((Cn.vdn (Cn.spr c a).2 n).toNat) 1) < nn)] ?_ (Zr (Rv hcx (congrArg AV.bool (show (Cn.satE c ((((Cn.spr c a).2).set ((Cn.vdn (Cn.spr c a).2 n).toNat) 2).set ((Cn.vdn (Cn.spr c a).2 n).toNat) 1)) = (Cn.satE c a) from (by first | exact hr.symm | (rw [hsm, htw, h35_, Bool.true_or]; done) | (rw [hsm, htw, h35_, Bool.false_or]; done)))) [] rfl)))))
       ·
        refine ap ?_ (ap ?_ az) <;>
         first | omega | exact id | exact vcNot | exact vcG | exact vcH | (intro _; omega) | exact (fun _ h => h) | (intro h; simp at h; omega) | (simp only [List.length_cons, List.length_nil, List.length_append, List.length_map, List.length_set, List.length_replicate]; omega) | (intro h; simp [h]; done) | exact ⟨hm1, hm2, hm3, hc, ha⟩ | exact ⟨hm1, hm2, by rw [List.length_set]; omega, by rw [List.length_set]; exact hcb, o1, by omega⟩ | exact ⟨hm1, hm2, by rw [List.length_set, List.length_set]; omega, by rw [List.length_set, List.length_set]; exact hcb, by rw [List.set_set]; exact o2, by rw [List.set_set]; omega⟩ | (constructor <;> omega) | (rw [List.length_set]; constructor <;> omega) | done
       ·
        refine ap ?_ az
        first | omega | exact id | exact vcNot | exact vcG | exact vcH | (intro _; omega) | exact (fun _ h => h) | (intro h; simp at h; omega) | (simp only [List.length_cons, List.length_nil, List.length_append, List.length_map, List.length_set, List.length_replicate]; omega) | (intro h; simp [h]; done) | exact ⟨hm1, hm2, hm3, hc, ha⟩ | exact ⟨hm1, hm2, by rw [List.length_set]; omega, by rw [List.length_set]; exact hcb, o1, by omega⟩ | exact ⟨hm1, hm2, by rw [List.length_set, List.length_set]; omega, by rw [List.length_set, List.length_set]; exact hcb, by rw [List.set_set]; exact o2, by rw [List.set_set]; omega⟩ | (constructor <;> omega) | (rw [List.length_set]; constructor <;> omega) | done
 ·
  cases hσ
theorem rCan18_all : ∀ nn, Sound Tryz.prog 19 (rCan18_σ nn) := sound_rec (sound_none (fn := Tryz.f19) Tryz.func19 (by kernel_rfl) rfl (fun args os p r outs hσ hp => by
  unfold rCan18_σ at hσ
  split at hσ
  · simp only [Option.some.injEq, Prod.mk.injEq] at hσ
    obtain ⟨rfl, rfl, rfl⟩ := hσ
    omega
  · cases hσ)) rCan18_step
def rCan18_τ : CtF
  | [.im (.ls (.intss c)), .im (.ls (.ints a))], [] => some (c.length ≤ 1000000000 ∧ (∀ l ∈ c, l.length ≤ 1000000000) ∧ a.length ≤ 1000000 ∧ Cn.OkC a.length c ∧ Cn.OkA a, .bool (Cn.satE c a), [])
  | _, _ => none
theorem rCan18_sound : Sound Tryz.prog 19 rCan18_τ := sound_all rCan18_all (fun args os p r outs hσ hp => by
  unfold rCan18_τ at hσ
  split at hσ
  · rename_i c a
    simp only [Option.some.injEq, Prod.mk.injEq] at hσ
    obtain ⟨rfl, rfl, rfl⟩ := hσ
    exact ⟨Cn.zer a + 1, _, rfl, ⟨hp.1, hp.2.1, hp.2.2.1, hp.2.2.2.1, hp.2.2.2.2, Nat.lt_succ_self _⟩⟩
  · cases hσ)
end Go.Proofs.YtkkapbnopmmmjaaGreatDoor.En
namespace Go.Proofs.YtkkapbnopmmmjaaGreatDoor.En
open Go Go.RowKit
def tySnd : List (Nat × TD) := [(3, ⟨1, false, [.int .i64 0], [], none, 8, false, 1, 1⟩),
  (4, ⟨1, false, [.bool false], [], none, 1, true, 0, 2⟩),
  (22, ⟨1, false, [.slice none 0 0], [], some 3, 24, false, 0, 3⟩),
  (35, ⟨1, false, [.slice none 0 0], [], some 4, 24, false, 0, 0⟩),
  (88, ⟨1, false, [.nilFunc], [], none, 8, false, 0, 0⟩),
  (90, ⟨1, false, [.int .i64 0], [], none, 8, false, 1, 1⟩)]
theorem tySnd_ok : AllTy Tryz.prog tySnd := ⟨⟨by kernel_rfl, by kernel_rfl, by kernel_rfl⟩, ⟨by kernel_rfl, by kernel_rfl, by kernel_rfl⟩, ⟨by kernel_rfl, by kernel_rfl, by kernel_rfl⟩, ⟨by kernel_rfl, by kernel_rfl, by kernel_rfl⟩, ⟨by kernel_rfl, by kernel_rfl, by kernel_rfl⟩, ⟨by kernel_rfl, by kernel_rfl, by kernel_rfl⟩, trivial⟩
def cx_lPadded : Cx := ⟨tySnd, [], false⟩
theorem cx_lPadded_ok : CxOk Tryz.prog cx_lPadded := cx_ok tySnd_ok trivial
def lPadded_σ : CtF
  | [.im (.ls (.bools a)), .im (.val (.int .i64 n))], [] => some (a.length ≤ maxLen ∧ 0 ≤ n ∧ n ≤ 1000000, .row 0, [some (.row 4 (.bools (Cn.padL a n)))])
  | _, _ => none
theorem lPadded_sound : Sound Tryz.prog 17 lPadded_σ := by
 refine Sw (cx := cx_lPadded) Tryz.f17 Tryz.func17 ?_
 intro wW wO wβ G0 args os p r outs hσ hp
 have hcx := cx_lPadded_ok
 unfold lPadded_σ at hσ
 split at hσ
 ·
  rename_i a n
  cases hσ
  refine ⟨by kernel_rfl, ?_⟩
  obtain ⟨hm1, hn0, hn1⟩ := hp
  unfold maxLen at hm1
  refine Sz hcx [] [] [] [] (Sq hcx [(1002, .to 209)] [5] [] [] [Fit (n + 1), ((0 : Int) ≤ (n + 1) ∧ (n + 1) ≤ ((n + 1) : Int) ∧ (n + 1).toNat * 1 ≤ 140737488355328)] ?_ (Zs (Sz hcx [] [6] [] [] (Zb (Zn [(209, .to 700)] [0, 1, 5, 6] (Lp (X := Nat) (fun x0 => (x0 : Int) ≤ n) (fun x0 => ([(0, .bools a), (1, .int n), (5, .row 700), (6, .int ((x0 : Int) + 1))], [(700, .row 4 (.bools (Cn.padK a n x0)))])) (fun x0 => n.toNat - x0) (0) ?_ Eb (Hx 700 (congrArg (fun x => AObj.row 4 (.bools x)) (show (List.replicate (n + 1).toNat false) = (Cn.padK a n 0) from (by exact Cn.padK_0 (by omega)))) Hb) fun i hI => ?_))))))
  ·
   refine ap ?_ (ap ?_ az) <;>
    first | omega | exact id | exact vcNot | exact vcG | exact vcH | (intro _; omega) | exact (fun _ h => h) | (intro h; simp at h; omega) | (simp only [List.length_cons, List.length_nil, List.length_append, List.length_map, List.length_set, List.length_replicate]; omega) | (intro h; simp [h]; done) | (unfold maxLen; omega) | (constructor <;> omega) | (intro _; constructor <;> omega) | (intro _; omega) | done
  ·
   show (0 : Int) ≤ n
   omega
  ·
   replace hI : (i : Int) ≤ n := hI
   have hpl := Cn.padK_len (a := a) (n := n) (i := i)
   refine Zs (Sq hcx [] [18] [] [] [((decide (((i : Int) + 1) ≤ n)) = true → ((decide (((i : Int) + 1) ≤ n)) = true)), ((decide (((i : Int) + 1) ≤ n)) = true → ((decide (((i : Int) + 1) ≤ n)) = true)), ((decide (((i : Int) + 1) ≤ n)) = true → ((decide (((i : Int) + 1) ≤ n)) = true)), ((decide (((i : Int) + 1) ≤ n)) = true → (decide (((i : Int) + 1) ≤ n)) = true)] ?_ (Zi (b := (decide (((i : Int) + 1) ≤ n)) && (decide (((i : Int) + 1) < (a.length : Int)))) (fun h0 => ?_) fun h0 => ?_))
   ·
    refine ap ?_ (ap ?_ (ap ?_ (ap (by exact id) az))) <;>
     first | omega | exact id | exact vcNot | exact vcG | exact vcH | (intro _; omega) | exact (fun _ h => h) | (intro h; simp at h; omega) | (simp only [List.length_cons, List.length_nil, List.length_append, List.length_map, List.length_set, List.length_replicate]; omega) | (intro h; simp [h]; done) | (unfold maxLen; omega) | (constructor <;> omega) | (intro _; constructor <;> omega) | (intro _; omega) | done
   ·
    try simp only [Bool.or_eq_true, Bool.or_eq_false_iff, Bool.and_eq_true, Bool.and_eq_false_iff, Bool.not_eq_true', Bool.not_eq_false', decide_eq_true_eq, decide_eq_false_iff_not, bne_iff_ne, bne_eq_false_iff_eq, beq_iff_eq, beq_eq_false_iff_ne] at h0
    have h18_ : (i : Int) + 1 ≤ n ∧ (i : Int) + 1 < a.length := by have := h0; omega
    refine Zk (Ft (Zs (Zb (Tq hcx [(700, .to 700)] [] [18] [] [((0 : Int) ≤ ((i : Int) + 1) ∧ ((i : Int) + 1) < (a.length : Int)), ((0 : Int) ≤ ((i : Int) + 1) ∧ ((i : Int) + 1) < ((Cn.padK a n i).length : Int)), ((((i : Int) + 1).toNat) < (Cn.padK a n i).length)] ?_ (Fb (Ft (Tq hcx [] [6] [] [] [Fit (((i : Int) + 1) + 1)] ?_ (Lr (i + 1) ?_ ?_ (Ex 6 (congrArg AV.int (show (((i : Int) + 1) + 1) = (((i + 1) : Int) + 1) from (by omega))) Eb) (Hx 700 (congrArg (fun x => AObj.row 4 (.bools x)) (show ((Cn.padK a n i).set (((i : Int) + 1).toNat) (a.getD (((i : Int) + 1).toNat) false)) = (Cn.padK a n (i + 1)) from (by exact Cn.padK_next (by omega)))) Hb)))))))))
    ·
     refine ap ?_ (ap ?_ (ap ?_ az)) <;>
      first | omega | exact id | exact vcNot | exact vcG | exact vcH | (intro _; omega) | exact (fun _ h => h) | (intro h; simp at h; omega) | (simp only [List.length_cons, List.length_nil, List.length_append, List.length_map, List.length_set, List.length_replicate]; omega) | (intro h; simp [h]; done) | (unfold maxLen; omega) | (constructor <;> omega) | (intro _; constructor <;> omega) | (intro _; omega) | done
    ·
     refine ap ?_ az
     first | omega | exact id | exact vcNot | exact vcG | exact vcH | (intro _; omega) | exact (fun _ h => h) | (intro h; simp at h; omega) | (simp only [List.length_cons, List.length_nil, List.length_append, List.length_map, List.length_set, List.length_replicate]; omega) | (intro h; simp [h]; done) | (unfold maxLen; omega) | (constructor <;> omega) | (intro _; constructor <;> omega) | (intro _; omega) | done
    ·
     show ((i + 1) : Int) ≤ n
     omega
    ·
     show n.toNat - (i + 1) < n.toNat - i
     omega
   ·
    try simp only [Bool.or_eq_true, Bool.or_eq_false_iff, Bool.and_eq_true, Bool.and_eq_false_iff, Bool.not_eq_true', Bool.not_eq_false', decide_eq_true_eq, decide_eq_false_iff_not, bne_iff_ne, bne_eq_false_iff_eq, beq_iff_eq, beq_eq_false_iff_ne] at h0
    have h18_ : ¬ ((i : Int) + 1 ≤ n ∧ (i : Int) + 1 < a.length) := by have := h0; omega
    exact Ze (Fe (Fe (Fs (Ft (Sz hcx [] [4] [18, 0, 1, 5, 6] [] (Zr (Fn [(700, .to 0)] [4] (Rv hcx rfl [true] (consO (congrArg some (congrArg (fun x => AObj.row 4 (.bools x)) (show (Cn.padK a n i) = (Cn.padL a n) from (by exact Cn.padK_all h18_)))) rfl)))))))))
 ·
  cases hσ
def cx_lLit : Cx := ⟨tySnd, [], false⟩
theorem cx_lLit_ok : CxOk Tryz.prog cx_lLit := cx_ok tySnd_ok trivial
def lLit_σ : CtF
  | [.im (.val (.int .i64 x)), .im (.ls (.bools a))], [] => some (-9223372036854775807 ≤ x ∧ x ≤ 9223372036854775807, .bool (Cn.litW a x), [])
  | _, _ => none
theorem lLit_sound : Sound Tryz.prog 18 lLit_σ := by
 refine Sw (cx := cx_lLit) Tryz.f18 Tryz.func18 ?_
 intro wW wO wβ G0 args os p r outs hσ hp
 have hcx := cx_lLit_ok
 unfold lLit_σ at hσ
 split at hσ
 ·
  rename_i x a
  cases hσ
  refine ⟨by kernel_rfl, ?_⟩
  obtain ⟨hx1, hx2⟩ := hp
  refine Sz hcx [] [] [] [] (Zs (Sz hcx [] [6] [] [] (Zj (p := (x < 0)) (fun h0 => ?_) fun h0 => ?_)))
  ·
   have h6_ := h0
   refine Sq hcx [] [4] [6, 0, 1] [] [Fit (-x), ((decide ((-x) < (a.length : Int))) = true → ((decide ((-x) < (a.length : Int))) = true)), ((decide ((-x) < (a.length : Int))) = true → Fit (-x)), ((decide ((-x) < (a.length : Int))) = true → ((decide ((-x) < (a.length : Int))) = true)), ((decide ((-x) < (a.length : Int))) = true → ((decide ((-x) < (a.length : Int))) = true)), ((decide ((-x) < (a.length : Int))) = true → ((0 : Int) ≤ (-x) ∧ (-x) < (a.length : Int))), ((decide ((-x) < (a.length : Int))) = true → ((decide ((-x) < (a.length : Int))) = true)), ((decide ((-x) < (a.length : Int))) = true → ((decide ((-x) < (a.length : Int))) = true)), ((decide ((-x) < (a.length : Int))) = true → (decide ((-x) < (a.length : Int))) = true)] ?_ (Zr (Fr (Rv hcx (congrArg AV.bool (show ((decide ((-x) < (a.length : Int))) && (!(a.getD ((-x).toNat) false))) = (Cn.litW a x) from (by first | exact (Cn.litW_n h6_).symm | exact (Cn.litW_p h6_).symm))) [] rfl)))
   ·
    refine ap ?_ (ap ?_ (ap ?_ (ap ?_ (ap ?_ (ap ?_ (ap ?_ (ap ?_ (ap (by exact id) az)))))))) <;>
     first | omega | exact id | exact vcNot | exact vcG | exact vcH | (intro _; omega) | exact (fun _ h => h) | (intro h; simp at h; omega) | (simp only [List.length_cons, List.length_nil, List.length_append, List.length_map, List.length_set, List.length_replicate]; omega) | (intro h; simp [h]; done) | (constructor <;> omega) | (intro _; constructor <;> omega) | (intro hg; simp only [Bool.and_eq_true, decide_eq_true_eq] at hg; omega) | (intro hg; simp only [Bool.and_eq_true, decide_eq_true_eq] at hg; constructor <;> omega) | done
  ·
   have h6_ := h0
   refine Zk (Ft (Sq hcx [] [4] [6, 0, 1] [] [((decide (x > 0)) = true → ((decide (x > 0)) = true)), ((decide (x > 0)) = true → ((decide (x > 0)) = true)), ((decide (x > 0)) = true → ((decide (x > 0)) = true)), ((decide (x > 0)) = true → (decide (x > 0)) = true), (((decide (x > 0)) && (decide (x < (a.length : Int)))) = true → (((decide (x > 0)) && (decide (x < (a.length : Int)))) = true)), (((decide (x > 0)) && (decide (x < (a.length : Int)))) = true → (((decide (x > 0)) && (decide (x < (a.length : Int)))) = true)), (((decide (x > 0)) && (decide (x < (a.length : Int)))) = true → ((0 : Int) ≤ x ∧ x < (a.length : Int))), (((decide (x > 0)) && (decide (x < (a.length : Int)))) = true → (((decide (x > 0)) && (decide (x < (a.length : Int)))) = true)), (((decide (x > 0)) && (decide (x < (a.length : Int)))) = true → ((decide (x > 0)) && (decide (x < (a.length : Int)))) = true)] ?_ (Zr (Rv hcx (congrArg AV.bool (show (((decide (x > 0)) && (decide (x < (a.length : Int)))) && (a.getD x.toNat false)) = (Cn.litW a x) from (by first | exact (Cn.litW_n h6_).symm | exact (Cn.litW_p h6_).symm))) [] rfl))))
   ·
    refine ap ?_ (ap ?_ (ap ?_ (ap (by exact id) (ap ?_ (ap ?_ (ap ?_ (ap ?_ (ap (by exact id) az)))))))) <;>
     first | omega | exact id | exact vcNot | exact vcG | exact vcH | (intro _; omega) | exact (fun _ h => h) | (intro h; simp at h; omega) | (simp only [List.length_cons, List.length_nil, List.length_append, List.length_map, List.length_set, List.length_replicate]; omega) | (intro h; simp [h]; done) | (constructor <;> omega) | (intro _; constructor <;> omega) | (intro hg; simp only [Bool.and_eq_true, decide_eq_true_eq] at hg; omega) | (intro hg; simp only [Bool.and_eq_true, decide_eq_true_eq] at hg; constructor <;> omega) | done
 ·
  cases hσ
end Go.Proofs.YtkkapbnopmmmjaaGreatDoor.En
