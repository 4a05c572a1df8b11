/- Lemmas and contracts for the row. -/
import Derived.Test.YtbpbndlgfiammaaGreatDoorPkRowProofChecksC
import Derived.Test.YtbpbndlgfiammaaGreatDoorPkRowProofChecksE
import Derived.Test.YtbpbndlgfiammaaGreatDoorPkRowProofChecksD
import Derived.Test.YtbpbndlgfiammaaGreatDoorPkRowProofChecksA
import Derived.WalkKit
import Derived.Below
import Derived.ChangeSlices
import Derived.WideShapes
import Derived.Lib.SmallJoins
import Derived.Deep.Grids
import Derived.Test.YtbpbndlgfiammaaGreatDoorProg
import Derived.KernelRfl
import Derived.Deep.Slices
import Derived.Deep.SlicePairs
import Derived.Test.YtbpbndlgfiammaaGreatDoorRows
import Derived.ProofKit
import Derived.LaidMore
import Derived.Lay
import Derived.LaidHandle
import Derived.MakeChecks
import Derived.OpenShut
import Derived.Stop.Joined
import Derived.Lib.LaidU8
import Derived.Shelf.Vars
import Derived.SizedLaws
import Derived.Handed
set_option linter.unusedVariables false
set_option linter.unusedSimpArgs false
set_option linter.unnecessarySimpa false
namespace Go.Proofs.YtbpbndlgfiammaaGreatDoor.En
open Go Go.RowKit
def tyR24E : List (Nat × TD) := [(3, ⟨1, false, [.int .i64 0], [], none, 8, false, 1, 1⟩),
  (22, ⟨1, false, [.slice none 0 0], [], some 23, 24, false, 0, 0⟩),
  (23, ⟨1, false, [.slice none 0 0], [], some 3, 24, false, 0, 3⟩)]
theorem tyR24E_ok : AllTy Tryz.prog tyR24E := ⟨⟨by kernel_rfl, by kernel_rfl, by kernel_rfl⟩, ⟨by kernel_rfl, by kernel_rfl, by kernel_rfl⟩, ⟨by kernel_rfl, by kernel_rfl, by kernel_rfl⟩, trivial⟩
def cx_rHasQ : Cx := ⟨tyR24E, [], true⟩
theorem cx_rHasQ_ok : CxOk Tryz.prog cx_rHasQ := cx_ok tyR24E_ok trivial
def rHasQ_σ : CtF
  | [.im (.ls (.ints l)), .im (.val (.int .i64 x))], [] => some (l.length ≤ maxLen, .bool (l.contains x), [])
  | _, _ => none
theorem rHasQ_sound : Sound Tryz.prog 41 rHasQ_σ := by
 refine Sw (cx := cx_rHasQ) Tryz.f41 Tryz.func41 ?_
 intro wW wO wβ G0 args os p r outs hσ hp
 have hcx := cx_rHasQ_ok
 unfold rHasQ_σ at hσ
 split at hσ
 ·
  rename_i l x
  cases hσ
  refine ⟨by kernel_rfl, ?_⟩
  have hm1 := hp
  unfold maxLen at hm1
  refine Sz hcx [] [] [] [] (Zs (Sz hcx [] [7, 8, 9] [0] [] (Zb (Lp (X := Nat) (fun x0 => x0 ≤ l.length ∧ ∀ j, j < x0 → (x == l.getD j 0) = false) (fun x0 => ([(1, .int x), (7, .ints l), (8, .int (l.length : Int)), (9, .int (x0 : Int))], [])) (fun x0 => l.length - x0) (0) ?_ (Ex 9 (congrArg AV.int (show 0 = (0 : Int) from (by first | rfl | omega | (simp; done)))) Eb) Hb fun i hI => ?_))))
  ·
   exact ⟨Nat.zero_le _, fun j hj => by omega⟩
  ·
   try dsimp only at hI
   obtain ⟨hk, hok⟩ := hI
   refine Sz hcx [] [10] [] [] (Zs (Zj (p := ((i : Int) < (l.length : Int))) (fun h0 => ?_) fun h0 => ?_))
   ·
    refine Zk (Ft (Zs (Zb (Sq hcx [] [6] [10] [] [((0 : Int) ≤ (i : Int) ∧ (i : Int) < (l.length : Int))] ?_ (Sz hcx [] [15] [6] [] (Zi (b := (l.getD i 0) == x) (fun h1 => ?_) fun h1 => ?_))))))
    ·
     refine ap ?_ az
     first | omega | exact id | exact vcNot | exact vcG | exact vcH | (intro _; omega) | exact (fun _ h => h) | (intro h; simp at h; omega) | (simp only [List.length_cons, List.length_nil, List.length_append, List.length_map, List.length_set, List.length_replicate]; omega) | (intro h; simp [h]; done) | (constructor <;> omega) | done
    ·
     replace h1 := eq_of_beq h1
     have hq : (x == l.getD i 0) = true := beq_iff_eq.2 (by omega)
     exact Sz hcx [] [4] [15, 1, 7, 8, 9] [] (Zr (Fk (Fr (Fr (Fk (Fr (Rv hcx (congrArg AV.bool (show true = (l.contains x) from (by first | exact Cn.hasQ_yes (by omega) hq | exact Cn.hasQ_no (by omega) hok | done))) [] rfl)))))))
    ·
     replace h1 := neB h1
     have hq : (x == l.getD i 0) = false := beq_eq_false_iff_ne.2 (by omega)
     refine Zk (Fb (Ft (Tq hcx [] [9] [15] [] [Fit ((i : Int) + 1)] ?_ (Lr (i + 1) ?_ ?_ (Ex 9 (congrArg AV.int (show ((i : Int) + 1) = ((i + 1) : Int) from (by first | rfl | omega | (simp; done)))) Eb) Hb))))
     ·
      refine ap ?_ az
      first | omega | exact id | exact vcNot | exact vcG | exact vcH | (intro _; omega) | exact (fun _ h => h) | (intro h; simp at h; omega) | (simp only [List.length_cons, List.length_nil, List.length_append, List.length_map, List.length_set, List.length_replicate]; omega) | (intro h; simp [h]; done) | (constructor <;> omega) | done
     ·
      exact ⟨by omega, fun j hj => by rcases (by omega : j < i ∨ j = i) with h | rfl; exact hok j h; exact hq⟩
     ·
      show l.length - (i + 1) < l.length - i
      omega
   ·
    exact Ze (Fe (Fe (Fs (Ft (Sz hcx [] [4] [10, 1, 7, 8, 9] [] (Zr (Rv hcx (congrArg AV.bool (show false = (l.contains x) from (by first | exact Cn.hasQ_yes (by omega) hq | exact Cn.hasQ_no (by omega) hok | done))) [] rfl)))))))
 ·
  cases hσ
def cx_rOneQ : Cx := ⟨tyR24E, [(40, rLit_σ), (41, (coeF [.ld (.ints []), .id] rHasQ_σ))], true⟩
theorem cx_rOneQ_ok : CxOk Tryz.prog cx_rOneQ := cx_ok tyR24E_ok ⟨rLit_sound, (rHasQ_sound.coe [.ld (.ints []), .id] rfl), trivial⟩
def rOneQ_σ : CtF
  | [.im (.ls (.ints l)), .im (.ls (.ints T))], [] => some (l.length ≤ maxLen ∧ T.length ≤ maxLen ∧ Cn.Cons (Cn.hasK T), .tup [.int ((Cn.lookV (Cn.hasK T) l).1), .bool ((Cn.lookV (Cn.hasK T) l).2)], [])
  | _, _ => none
theorem rOneQ_sound : Sound Tryz.prog 42 rOneQ_σ := by
 refine Sw (cx := cx_rOneQ) Tryz.f42 Tryz.func42 ?_
 intro wW wO wβ G0 args os p r outs hσ hp
 have hcx := cx_rOneQ_ok
 unfold rOneQ_σ at hσ
 split at hσ
 ·
  rename_i l T
  cases hσ
  refine ⟨by kernel_rfl, ?_⟩
  obtain ⟨hm1, hm2, hcn⟩ := hp
  unfold maxLen at hm1
  refine Sz hcx [] [] [] [] (Sz hcx [] [6] [] [] (Zs (Sz hcx [] [9, 10, 11] [0] [] (Zb (Lp (X := Nat × Int) (fun x0 => Cn.OneI (Cn.hasK T) l x0.1 x0.2) (fun x0 => ([(1, .ints T), (6, .int x0.2), (9, .ints l), (10, .int (l.length : Int)), (11, .int (x0.1 : Int))], [])) (fun x0 => l.length - x0.1) (0, (0 : Int)) ?_ (Ex 6 (congrArg AV.int (show 0 = (0 : Int) from (by first | rfl | omega | (simp; done)))) (Ex 11 (congrArg AV.int (show 0 = (0 : Int) from (by first | rfl | omega | (simp; done)))) Eb)) Hb fun ⟨i, o⟩ hI => ?_)))))
  ·
   show Cn.OneI (Cn.hasK T) l 0 (0 : Int)
   exact Cn.one_0 (Cn.hasK T) l
  ·
   replace hI : Cn.OneI (Cn.hasK T) l i o := hI
   have hil := hI.1
   refine Sz hcx [] [12] [] [] (Zs (Zj (p := ((i : Int) < (l.length : Int))) (fun h0 => ?_) fun h0 => ?_))
   ·
    refine Zk (Ft (Zs (Zb (Sq hcx [] [8] [12] [] [((0 : Int) ≤ (i : Int) ∧ (i : Int) < (l.length : Int))] ?_ (Zs (Sq hcx [] [17] [] [] [(True)] ?_ (Zi (b := !(Cn.mayP (l.getD i 0) 65536)) (fun h1 => ?_) fun h1 => ?_)))))))
    ·
     refine ap ?_ az
     first | omega | exact id | exact vcNot | exact vcG | exact vcH | (intro _; omega) | exact (fun _ h => h) | (intro h; simp at h; omega) | (simp only [List.length_cons, List.length_nil, List.length_append, List.length_map, List.length_set, List.length_replicate]; omega) | (intro h; simp [h]; done) | exact True.intro | exact hm2 | (constructor <;> omega) | (intro _; constructor <;> omega) | done
    ·
     refine ap ?_ az
     first | omega | exact id | exact vcNot | exact vcG | exact vcH | (intro _; omega) | exact (fun _ h => h) | (intro h; simp at h; omega) | (simp only [List.length_cons, List.length_nil, List.length_append, List.length_map, List.length_set, List.length_replicate]; omega) | (intro h; simp [h]; done) | exact True.intro | exact hm2 | (constructor <;> omega) | (intro _; constructor <;> omega) | done
    ·
     have hm := Cn.ntT h1
     have hnx := Cn.one_skip hI (by omega) hm
     refine Ze (Fe (Fs (Ft (Tq hcx [] [11] [17, 8] [] [Fit ((i : Int) + 1)] ?_ (Lr (i + 1, (Cn.oneN (Cn.hasK T) o (l.getD i 0))) ?_ ?_ (Ex 6 (congrArg AV.int (show o = (Cn.oneN (Cn.hasK T) o (l.getD i 0)) from (by first | exact (Cn.oneN_1 hm).symm | exact (Cn.oneN_2 hn).symm | exact (Cn.oneN_3 hm hn).symm))) (Ex 11 (congrArg AV.int (show ((i : Int) + 1) = ((i + 1) : Int) from (by first | rfl | omega | (simp; done)))) Eb)) Hb)))))
     ·
      refine ap ?_ az
      first | omega | exact id | exact vcNot | exact vcG | exact vcH | (intro _; omega) | exact (fun _ h => h) | (intro h; simp at h; omega) | (simp only [List.length_cons, List.length_nil, List.length_append, List.length_map, List.length_set, List.length_replicate]; omega) | (intro h; simp [h]; done) | exact True.intro | exact hm2 | (constructor <;> omega) | (intro _; constructor <;> omega) | done
     ·
      try dsimp only
      first | (rw [Cn.oneN_1 hm]; exact hnx) | (rw [Cn.oneN_2 hn]; exact hnx) | (rw [Cn.oneN_3 hm hn]; exact hnx)
     ·
      show l.length - (i + 1) < l.length - i
      omega
    ·
     have hm := Cn.ntF h1
     have hb := (Cn.mayP_iff.1 hm).2
     refine Zk (Ft (Zs (Sq hcx [] [20] [17] [] [(T.length ≤ maxLen)] ?_ (Zi (b := T.contains (l.getD i 0)) (fun h2 => ?_) fun h2 => ?_))))
     ·
      refine ap ?_ az
      first | omega | exact id | exact vcNot | exact vcG | exact vcH | (intro _; omega) | exact (fun _ h => h) | (intro h; simp at h; omega) | (simp only [List.length_cons, List.length_nil, List.length_append, List.length_map, List.length_set, List.length_replicate]; omega) | (intro h; simp [h]; done) | exact True.intro | exact hm2 | (constructor <;> omega) | (intro _; constructor <;> omega) | done
     ·
      have ht : (Cn.hasK T) (l.getD i 0) = true := h2
      have hr := Cn.one_true hcn (by omega) hm ht
      exact Sz hcx [] [4, 5] [20, 8, 1, 6, 9, 10, 11] [] (Zr (Fr (Fk (Fr (Fr (Fk (Fr (Rv hcx (congrArg AV.tup (consE (congrArg AV.int (show 0 = (Cn.lookV (Cn.hasK T) l).1 from (by first | (rw [hr]; done) | done))) (consE (congrArg AV.bool (show false = (Cn.lookV (Cn.hasK T) l).2 from (by first | (rw [hr]; done) | done))) rfl))) [] rfl))))))))
     ·
      have ht : (Cn.hasK T) (l.getD i 0) = false := h2
      refine Zk (Ft (Zs (Sq hcx [] [24] [20] [] [Fit (-(l.getD i 0)), (T.length ≤ maxLen)] ?_ (Zi (b := T.contains (-(l.getD i 0))) (fun h3 => ?_) fun h3 => ?_))))
      ·
       refine ap ?_ (ap ?_ az) <;>
        first | omega | exact id | exact vcNot | exact vcG | exact vcH | (intro _; omega) | exact (fun _ h => h) | (intro h; simp at h; omega) | (simp only [List.length_cons, List.length_nil, List.length_append, List.length_map, List.length_set, List.length_replicate]; omega) | (intro h; simp [h]; done) | exact True.intro | exact hm2 | (constructor <;> omega) | (intro _; constructor <;> omega) | done
      ·
       have hn : (Cn.hasK T) (-(l.getD i 0)) = true := h3
       have hnx := Cn.one_false hI (by omega) ht hn
       refine Ze (Fe (Fs (Ft (Tq hcx [] [11] [24, 8] [] [Fit ((i : Int) + 1)] ?_ (Lr (i + 1, (Cn.oneN (Cn.hasK T) o (l.getD i 0))) ?_ ?_ (Ex 6 (congrArg AV.int (show o = (Cn.oneN (Cn.hasK T) o (l.getD i 0)) from (by first | exact (Cn.oneN_1 hm).symm | exact (Cn.oneN_2 hn).symm | exact (Cn.oneN_3 hm hn).symm))) (Ex 11 (congrArg AV.int (show ((i : Int) + 1) = ((i + 1) : Int) from (by first | rfl | omega | (simp; done)))) Eb)) Hb)))))
       ·
        refine ap ?_ az
        first | omega | exact id | exact vcNot | exact vcG | exact vcH | (intro _; omega) | exact (fun _ h => h) | (intro h; simp at h; omega) | (simp only [List.length_cons, List.length_nil, List.length_append, List.length_map, List.length_set, List.length_replicate]; omega) | (intro h; simp [h]; done) | exact True.intro | exact hm2 | (constructor <;> omega) | (intro _; constructor <;> omega) | done
       ·
        try dsimp only
        first | (rw [Cn.oneN_1 hm]; exact hnx) | (rw [Cn.oneN_2 hn]; exact hnx) | (rw [Cn.oneN_3 hm hn]; exact hnx)
       ·
        show l.length - (i + 1) < l.length - i
        omega
      ·
       have hn : (Cn.hasK T) (-(l.getD i 0)) = false := h3
       refine Zk (Ft (Zs (Sq hcx [] [31] [24, 6] [] [((o != 0) = true → ((o != 0) = true)), ((o != 0) = true → ((o != 0) = true)), ((o != 0) = true → (o != 0) = true)] ?_ (Zi (b := (o != 0) && (o != (l.getD i 0))) (fun h4 => ?_) fun h4 => ?_))))
       ·
        refine ap ?_ (ap ?_ (ap (by exact id) az)) <;>
         first | omega | exact id | exact vcNot | exact vcG | exact vcH | (intro _; omega) | exact (fun _ h => h) | (intro h; simp at h; omega) | (simp only [List.length_cons, List.length_nil, List.length_append, List.length_map, List.length_set, List.length_replicate]; omega) | (intro h; simp [h]; done) | exact True.intro | exact hm2 | (constructor <;> omega) | (intro _; constructor <;> omega) | done
       ·
        obtain ⟨h0, hne⟩ := Cn.one_nn h4
        have hr := Cn.one_two hI (by omega) hm ht hn h0 hne
        exact Sz hcx [] [4, 5] [31, 8, 1, 9, 10, 11] [] (Zr (Fr (Fk (Fr (Fr (Fk (Fr (Rv hcx (congrArg AV.tup (consE (congrArg AV.int (show 0 = (Cn.lookV (Cn.hasK T) l).1 from (by first | (rw [hr]; done) | done))) (consE (congrArg AV.bool (show false = (Cn.lookV (Cn.hasK T) l).2 from (by first | (rw [hr]; done) | done))) rfl))) [] rfl))))))))
       ·
        have ho := Cn.one_nf h4
        have hnx := Cn.one_open hI (by omega) hm ht hn ho
        refine Zk (Ft (Tz hcx [] [6] [31, 8] [] (Fb (Ft (Tq hcx [] [11] [] [] [Fit ((i : Int) + 1)] ?_ (Lr (i + 1, (Cn.oneN (Cn.hasK T) o (l.getD i 0))) ?_ ?_ (Ex 6 (congrArg AV.int (show (l.getD i 0) = (Cn.oneN (Cn.hasK T) o (l.getD i 0)) from (by first | exact (Cn.oneN_1 hm).symm | exact (Cn.oneN_2 hn).symm | exact (Cn.oneN_3 hm hn).symm))) (Ex 11 (congrArg AV.int (show ((i : Int) + 1) = ((i + 1) : Int) from (by first | rfl | omega | (simp; done)))) Eb)) Hb))))))
        ·
         refine ap ?_ az
         first | omega | exact id | exact vcNot | exact vcG | exact vcH | (intro _; omega) | exact (fun _ h => h) | (intro h; simp at h; omega) | (simp only [List.length_cons, List.length_nil, List.length_append, List.length_map, List.length_set, List.length_replicate]; omega) | (intro h; simp [h]; done) | exact True.intro | exact hm2 | (constructor <;> omega) | (intro _; constructor <;> omega) | done
        ·
         try dsimp only
         first | (rw [Cn.oneN_1 hm]; exact hnx) | (rw [Cn.oneN_2 hn]; exact hnx) | (rw [Cn.oneN_3 hm hn]; exact hnx)
        ·
         show l.length - (i + 1) < l.length - i
         omega
   ·
    have h12 := h0
    have hr := Cn.one_fin hI (by omega)
    exact Ze (Fe (Fe (Fs (Ft (Sz hcx [] [4, 5] [12, 1, 6, 9, 10, 11] [] (Zr (Rv hcx (congrArg AV.tup (consE (congrArg AV.int (show o = (Cn.lookV (Cn.hasK T) l).1 from (by first | (rw [hr]; done) | done))) (consE (congrArg AV.bool (show (o == 0) = (Cn.lookV (Cn.hasK T) l).2 from (by first | (rw [hr]; done) | done))) rfl))) [] rfl)))))))
 ·
  cases hσ
def cx_rFlwQ : Cx := ⟨tyR24E, [(40, rLit_σ), (41, (coeF [.ld (.ints []), .id] rHasQ_σ)), (42, (coeF [.ld (.ints []), .ld (.ints [])] rOneQ_σ))], true⟩
theorem cx_rFlwQ_ok : CxOk Tryz.prog cx_rFlwQ := cx_ok tyR24E_ok ⟨rLit_sound, (rHasQ_sound.coe [.ld (.ints []), .id] rfl), (rOneQ_sound.coe [.ld (.ints []), .ld (.ints [])] rfl), trivial⟩
def rFlwQ_σ : CtF
  | [.im (.ls (.intss c)), .im (.ls (.ints l))], [] => some (c.length ≤ 1000000 ∧ (∀ x ∈ c, x.length ≤ maxLen) ∧ l.length ≤ 1000000, .bool (Cn.flwV c l), [])
  | _, _ => none
theorem rFlwQ_sound : Sound Tryz.prog 15 rFlwQ_σ := by
 refine Sw (cx := cx_rFlwQ) Tryz.f15 Tryz.func15 ?_
 intro wW wO wβ G0 args os p r outs hσ hp
 have hcx := cx_rFlwQ_ok
 unfold rFlwQ_σ at hσ
 split at hσ
 ·
  rename_i c l
  cases hσ
  refine ⟨by kernel_rfl, ?_⟩
  obtain ⟨hm1, hm2, hm3⟩ := hp
  refine Sz hcx [] [] [] [] (Sz hcx [] [5] [] [] (Zs (Sz hcx [] [13, 14, 15] [1] [] (Zb (Zw 5 700 3 (.ints []) (Lp (X := Nat) (fun x0 => x0 ≤ l.length ∧ Cn.contra (l.take x0) = false) (fun x0 => ([(0, .intss c), (5, .row 700), (13, .ints l), (14, .int (l.length : Int)), (15, .int (x0 : Int))], [(700, .row 3 (.ints (Cn.negL (l.take x0))))])) (fun x0 => l.length - x0) (0) ?_ (Ex 15 (congrArg AV.int (show 0 = (0 : Int) from (by first | rfl | omega | (simp; done)))) Eb) Hb fun i hI => ?_))))))
  ·
   exact ⟨Nat.zero_le _, rfl⟩
  ·
   try dsimp only at hI
   obtain ⟨hk, hct⟩ := hI
   have hnl := Cn.negL_len l i
   refine Sz hcx [] [16] [] [] (Zs (Zj (p := ((i : Int) < (l.length : Int))) (fun h0 => ?_) fun h0 => ?_))
   ·
    refine Zk (Ft (Zs (Zb (Sq hcx [] [7] [16] [] [((0 : Int) ≤ (i : Int) ∧ (i : Int) < (l.length : Int))] ?_ (Zs (Sq hcx [] [25] [] [] [(True), ((Cn.mayP (l.getD i 0) 65536) = true → ((Cn.mayP (l.getD i 0) 65536) = true)), ((Cn.mayP (l.getD i 0) 65536) = true → ((Cn.mayP (l.getD i 0) 65536) = true)), ((Cn.mayP (l.getD i 0) 65536) = true → ((Cn.negL (l.take i)).length ≤ maxLen)), ((Cn.mayP (l.getD i 0) 65536) = true → (Cn.mayP (l.getD i 0) 65536) = true)] ?_ (Zi (b := (Cn.mayP (l.getD i 0) 65536) && ((Cn.negL (l.take i)).contains (l.getD i 0))) (fun h1 => ?_) fun h1 => ?_)))))))
    ·
     refine ap ?_ az
     first | omega | exact id | exact vcNot | exact vcG | exact vcH | (intro _; omega) | exact (fun _ h => h) | (intro h; simp at h; omega) | (simp only [List.length_cons, List.length_nil, List.length_append, List.length_map, List.length_set, List.length_replicate]; omega) | (intro h; simp [h]; done) | exact True.intro | (intro _; exact True.intro) | (unfold maxLen; omega) | (intro _; unfold maxLen; omega) | exact ⟨hm2 _ (Cn.getD_memL (by omega)), by unfold maxLen; omega, hF.1⟩ | (constructor <;> omega) | (simp only [List.length_cons, List.length_nil]; omega) | done
    ·
     refine ap ?_ (ap ?_ (ap ?_ (ap ?_ (ap (by exact id) az)))) <;>
      first | omega | exact id | exact vcNot | exact vcG | exact vcH | (intro _; omega) | exact (fun _ h => h) | (intro h; simp at h; omega) | (simp only [List.length_cons, List.length_nil, List.length_append, List.length_map, List.length_set, List.length_replicate]; omega) | (intro h; simp [h]; done) | exact True.intro | (intro _; exact True.intro) | (unfold maxLen; omega) | (intro _; unfold maxLen; omega) | exact ⟨hm2 _ (Cn.getD_memL (by omega)), by unfold maxLen; omega, hF.1⟩ | (constructor <;> omega) | (simp only [List.length_cons, List.length_nil]; omega) | done
    ·
     have h25 := Cn.and_tt h1
     have hr := Cn.flw_c (c := c) (Cn.ct_hit (by omega) h25.1 h25.2)
     exact Sz hcx [] [4] [25, 7, 0, 5, 13, 14, 15] [700] (Zr (Fr (Fk (Fr (Fr (Fk (Fr (Rv hcx (congrArg AV.bool (show true = (Cn.flwV c l) from (by first | exact hr.symm | (subst hmf; exact (Cn.RI_end hR (by omega) hctl hT).symm) | done))) [] rfl))))))))
    ·
     have hnx := Cn.ct_next (by omega) hct (Cn.and_ff h1)
     refine Zk (Ft (Sq hcx [] [27] [25] [] [(True)] ?_ (Zi (b := Cn.mayP (l.getD i 0) 65536) (fun h2 => ?_) fun h2 => ?_)))
     ·
      refine ap ?_ az
      first | omega | exact id | exact vcNot | exact vcG | exact vcH | (intro _; omega) | exact (fun _ h => h) | (intro h; simp at h; omega) | (simp only [List.length_cons, List.length_nil, List.length_append, List.length_map, List.length_set, List.length_replicate]; omega) | (intro h; simp [h]; done) | exact True.intro | (intro _; exact True.intro) | (unfold maxLen; omega) | (intro _; unfold maxLen; omega) | exact ⟨hm2 _ (Cn.getD_memL (by omega)), by unfold maxLen; omega, hF.1⟩ | (constructor <;> omega) | (simp only [List.length_cons, List.length_nil]; omega) | done
     ·
      have hm : Cn.mayP (l.getD i 0) 65536 = true := h2
      have hb := (Cn.mayP_iff.1 hm).2
      refine Tq hcx [(1004, .to 700)] [5] [27, 7] [700] [Fit (-(l.getD i 0)), (((Cn.negL (l.take i)).length + [(-(l.getD i 0))].length) * 8 ≤ 140737488355328)] ?_ (Fb (Ft (Tq hcx [] [15] [] [] [Fit ((i : Int) + 1)] ?_ (Lr (i + 1) ?_ ?_ (Ex 15 (congrArg AV.int (show ((i : Int) + 1) = ((i + 1) : Int) from (by first | rfl | omega | (simp; done)))) Eb) (Hx 700 (congrArg (fun x => AObj.row 3 (.ints x)) (show ((Cn.negL (l.take i)) ++ [(-(l.getD i 0))]) = (Cn.negL (l.take (i + 1))) from (by first | exact Cn.negL_1 (by omega) hm | exact Cn.negL_0 (by omega) hm))) Hb)))))
      ·
       refine ap ?_ (ap ?_ az) <;>
        first | omega | exact id | exact vcNot | exact vcG | exact vcH | (intro _; omega) | exact (fun _ h => h) | (intro h; simp at h; omega) | (simp only [List.length_cons, List.length_nil, List.length_append, List.length_map, List.length_set, List.length_replicate]; omega) | (intro h; simp [h]; done) | exact True.intro | (intro _; exact True.intro) | (unfold maxLen; omega) | (intro _; unfold maxLen; omega) | exact ⟨hm2 _ (Cn.getD_memL (by omega)), by unfold maxLen; omega, hF.1⟩ | (constructor <;> omega) | (simp only [List.length_cons, List.length_nil]; omega) | done
      ·
       refine ap ?_ az
       first | omega | exact id | exact vcNot | exact vcG | exact vcH | (intro _; omega) | exact (fun _ h => h) | (intro h; simp at h; omega) | (simp only [List.length_cons, List.length_nil, List.length_append, List.length_map, List.length_set, List.length_replicate]; omega) | (intro h; simp [h]; done) | exact True.intro | (intro _; exact True.intro) | (unfold maxLen; omega) | (intro _; unfold maxLen; omega) | exact ⟨hm2 _ (Cn.getD_memL (by omega)), by unfold maxLen; omega, hF.1⟩ | (constructor <;> omega) | (simp only [List.length_cons, List.length_nil]; omega) | done
      ·
       exact ⟨by omega, hnx⟩
      ·
       show l.length - (i + 1) < l.length - i
       omega
     ·
      have hm : Cn.mayP (l.getD i 0) 65536 = false := h2
      refine Zk (Fb (Ft (Tq hcx [] [15] [27, 7] [] [Fit ((i : Int) + 1)] ?_ (Lr (i + 1) ?_ ?_ (Ex 15 (congrArg AV.int (show ((i : Int) + 1) = ((i + 1) : Int) from (by first | rfl | omega | (simp; done)))) Eb) (Hx 700 (congrArg (fun x => AObj.row 3 (.ints x)) (show (Cn.negL (l.take i)) = (Cn.negL (l.take (i + 1))) from (by first | exact Cn.negL_1 (by omega) hm | exact Cn.negL_0 (by omega) hm))) Hb)))))
      ·
       refine ap ?_ az
       first | omega | exact id | exact vcNot | exact vcG | exact vcH | (intro _; omega) | exact (fun _ h => h) | (intro h; simp at h; omega) | (simp only [List.length_cons, List.length_nil, List.length_append, List.length_map, List.length_set, List.length_replicate]; omega) | (intro h; simp [h]; done) | exact True.intro | (intro _; exact True.intro) | (unfold maxLen; omega) | (intro _; unfold maxLen; omega) | exact ⟨hm2 _ (Cn.getD_memL (by omega)), by unfold maxLen; omega, hF.1⟩ | (constructor <;> omega) | (simp only [List.length_cons, List.length_nil]; omega) | done
      ·
       exact ⟨by omega, hnx⟩
      ·
       show l.length - (i + 1) < l.length - i
       omega
   ·
    have h16 := h0
    have hctl : Cn.contra l = false := by have h8 := hct; rwa [show i = l.length by omega, List.take_length] at h8
    refine Ze (Fe (Fe (Fs (Ft (Zb (Zn [(700, .to 701)] [0, 5] (Lp (X := List Int) (fun x0 => Cn.FB c l x0) (fun x0 => ([(0, .intss c), (5, .row 701)], [(701, .row 3 (.ints x0))])) (fun x0 => Cn.cntU c x0) ((Cn.negL (l.take i))) ?_ Eb Hb fun T hI => ?_)))))))
    ·
     show Cn.FB c l (Cn.negL (l.take i))
     (rw [show i = l.length by omega, List.take_length] at hct ⊢; exact Cn.FB_0 hct)
    ·
     replace hI : Cn.FB c l T := hI
     have hT := hI
     have hTb := hT.2
     refine Zb (Sz hcx [] [8] [] [] (Zs (Sz hcx [] [34, 35, 36] [] [] (Zb (Zn [(701, .to 702)] [0, 5, 8, 34, 35, 36] (Lp (X := Nat × List Int × Bool) (fun x0 => Cn.RI c l T x0.1 x0.2.1 x0.2.2) (fun x0 => ([(0, .intss c), (5, .row 702), (8, .bool x0.2.2), (34, .intss c), (35, .int (c.length : Int)), (36, .int (x0.1 : Int))], [(702, .row 3 (.ints x0.2.1))])) (fun x0 => c.length - x0.1) (0, T, false) ?_ (Ex 36 (congrArg AV.int (show 0 = (0 : Int) from (by first | rfl | omega | (simp; done)))) Eb) Hb fun ⟨j, S, m⟩ hI => ?_))))))
     ·
      show Cn.RI c l T 0 T false
      exact Cn.RI_0 hT
     ·
      replace hI : Cn.RI c l T j S m := hI
      have hR := hI
      have hj := hR.1
      have hF := hR.2.1.1
      have hSb := hR.2.1.2
      refine Sz hcx [] [37] [] [] (Zs (Zj (p := ((j : Int) < (c.length : Int))) (fun h3 => ?_) fun h3 => ?_))
      ·
       refine Zk (Ft (Zs (Zb (Sq hcx [] [10] [37] [] [((0 : Int) ≤ (j : Int) ∧ (j : Int) < (c.length : Int))] ?_ (Sq hcx [] [11, 12] [10] [] [((c.getD j []).length ≤ maxLen ∧ S.length ≤ maxLen ∧ Cn.Cons (Cn.hasK S))] ?_ (Zs (Sz hcx [] [46] [12] [] (Zi (b := (Cn.lookV (Cn.hasK S) (c.getD j [])).2) (fun h4 => ?_) fun h4 => ?_))))))))
       ·
        refine ap ?_ az
        first | omega | exact id | exact vcNot | exact vcG | exact vcH | (intro _; omega) | exact (fun _ h => h) | (intro h; simp at h; omega) | (simp only [List.length_cons, List.length_nil, List.length_append, List.length_map, List.length_set, List.length_replicate]; omega) | (intro h; simp [h]; done) | exact True.intro | (intro _; exact True.intro) | (unfold maxLen; omega) | (intro _; unfold maxLen; omega) | exact ⟨hm2 _ (Cn.getD_memL (by omega)), by unfold maxLen; omega, hF.1⟩ | (constructor <;> omega) | (simp only [List.length_cons, List.length_nil]; omega) | done
       ·
        refine ap ?_ az
        first | omega | exact id | exact vcNot | exact vcG | exact vcH | (intro _; omega) | exact (fun _ h => h) | (intro h; simp at h; omega) | (simp only [List.length_cons, List.length_nil, List.length_append, List.length_map, List.length_set, List.length_replicate]; omega) | (intro h; simp [h]; done) | exact True.intro | (intro _; exact True.intro) | (unfold maxLen; omega) | (intro _; unfold maxLen; omega) | exact ⟨hm2 _ (Cn.getD_memL (by omega)), by unfold maxLen; omega, hF.1⟩ | (constructor <;> omega) | (simp only [List.length_cons, List.length_nil]; omega) | done
       ·
        have hr := Cn.FI_conf hF (Cn.getD_memL (by omega)) h4
        exact Sz hcx [] [4] [46, 11, 0, 5, 8, 34, 35, 36] [702] (Zr (Fr (Fk (Fr (Fr (Fk (Fr (Fk (Fr (Fk (Rv hcx (congrArg AV.bool (show true = (Cn.flwV c l) from (by first | exact hr.symm | (subst hmf; exact (Cn.RI_end hR (by omega) hctl hT).symm) | done))) [] rfl)))))))))))
       ·
        have h46 := h4
        refine Zk (Ft (Sz hcx [] [48] [46] [] (Zx (a := ((Cn.lookV (Cn.hasK S) (c.getD j [])).1)) (b := 0) (fun h5 => ?_) fun h5 => ?_)))
        ·
         have h48 := h5
         refine Sq hcx [(1003, .to 702)] [5] [48, 11, 8] [702] [((S.length + [(Cn.lookV (Cn.hasK S) (c.getD j [])).1].length) * 8 ≤ 140737488355328)] ?_ (Tz hcx [] [8] [] [] (Fb (Ft (Tq hcx [] [36] [] [] [Fit ((j : Int) + 1)] ?_ (Lr (j + 1, (Cn.nxS S (Cn.lookV (Cn.hasK S) (c.getD j [])).1), (m || !((Cn.lookV (Cn.hasK S) (c.getD j [])).1 == 0))) ?_ ?_ (Ex 8 (congrArg AV.bool (show true = (m || !((Cn.lookV (Cn.hasK S) (c.getD j [])).1 == 0)) from (by first | exact (Cn.or_t h48).symm | exact (Cn.or_f h48).symm))) (Ex 36 (congrArg AV.int (show ((j : Int) + 1) = ((j + 1) : Int) from (by first | rfl | omega | (simp; done)))) Eb)) (Hx 702 (congrArg (fun x => AObj.row 3 (.ints x)) (show (S ++ [(Cn.lookV (Cn.hasK S) (c.getD j [])).1]) = (Cn.nxS S (Cn.lookV (Cn.hasK S) (c.getD j [])).1) from (by first | exact (Cn.nxS_1 h48).symm | exact (Cn.nxS_0 (by omega)).symm))) Hb))))))
         ·
          refine ap ?_ az
          first | omega | exact id | exact vcNot | exact vcG | exact vcH | (intro _; omega) | exact (fun _ h => h) | (intro h; simp at h; omega) | (simp only [List.length_cons, List.length_nil, List.length_append, List.length_map, List.length_set, List.length_replicate]; omega) | (intro h; simp [h]; done) | exact True.intro | (intro _; exact True.intro) | (unfold maxLen; omega) | (intro _; unfold maxLen; omega) | exact ⟨hm2 _ (Cn.getD_memL (by omega)), by unfold maxLen; omega, hF.1⟩ | (constructor <;> omega) | (simp only [List.length_cons, List.length_nil]; omega) | done
         ·
          refine ap ?_ az
          first | omega | exact id | exact vcNot | exact vcG | exact vcH | (intro _; omega) | exact (fun _ h => h) | (intro h; simp at h; omega) | (simp only [List.length_cons, List.length_nil, List.length_append, List.length_map, List.length_set, List.length_replicate]; omega) | (intro h; simp [h]; done) | exact True.intro | (intro _; exact True.intro) | (unfold maxLen; omega) | (intro _; unfold maxLen; omega) | exact ⟨hm2 _ (Cn.getD_memL (by omega)), by unfold maxLen; omega, hF.1⟩ | (constructor <;> omega) | (simp only [List.length_cons, List.length_nil]; omega) | done
         ·
          try dsimp only
          first | exact Cn.RI_unit hR (by omega) h48 | exact Cn.RI_none hR (by omega) h46 (by omega)
         ·
          show c.length - (j + 1) < c.length - j
          omega
        ·
         have h48 := h5
         refine Zk (Fb (Ft (Tq hcx [] [36] [48, 11] [] [Fit ((j : Int) + 1)] ?_ (Lr (j + 1, (Cn.nxS S (Cn.lookV (Cn.hasK S) (c.getD j [])).1), (m || !((Cn.lookV (Cn.hasK S) (c.getD j [])).1 == 0))) ?_ ?_ (Ex 8 (congrArg AV.bool (show m = (m || !((Cn.lookV (Cn.hasK S) (c.getD j [])).1 == 0)) from (by first | exact (Cn.or_t h48).symm | exact (Cn.or_f h48).symm))) (Ex 36 (congrArg AV.int (show ((j : Int) + 1) = ((j + 1) : Int) from (by first | rfl | omega | (simp; done)))) Eb)) (Hx 702 (congrArg (fun x => AObj.row 3 (.ints x)) (show S = (Cn.nxS S (Cn.lookV (Cn.hasK S) (c.getD j [])).1) from (by first | exact (Cn.nxS_1 h48).symm | exact (Cn.nxS_0 (by omega)).symm))) Hb)))))
         ·
          refine ap ?_ az
          first | omega | exact id | exact vcNot | exact vcG | exact vcH | (intro _; omega) | exact (fun _ h => h) | (intro h; simp at h; omega) | (simp only [List.length_cons, List.length_nil, List.length_append, List.length_map, List.length_set, List.length_replicate]; omega) | (intro h; simp [h]; done) | exact True.intro | (intro _; exact True.intro) | (unfold maxLen; omega) | (intro _; unfold maxLen; omega) | exact ⟨hm2 _ (Cn.getD_memL (by omega)), by unfold maxLen; omega, hF.1⟩ | (constructor <;> omega) | (simp only [List.length_cons, List.length_nil]; omega) | done
         ·
          try dsimp only
          first | exact Cn.RI_unit hR (by omega) h48 | exact Cn.RI_none hR (by omega) h46 (by omega)
         ·
          show c.length - (j + 1) < c.length - j
          omega
      ·
       refine Ze (Fe (Fe (Fs (Ft (Sz hcx [] [55] [37, 8, 34, 35, 36] [] (Zi (b := !m) (fun h6 => ?_) fun h6 => ?_))))))
       ·
        have hmf : m = false := Cn.ntT h6
        exact Sz hcx [] [4] [55, 0, 5] [702] (Zr (Fk (Fr (Fk (Rv hcx (congrArg AV.bool (show false = (Cn.flwV c l) from (by first | exact hr.symm | (subst hmf; exact (Cn.RI_end hR (by omega) hctl hT).symm) | done))) [] rfl)))))
       ·
        have hmt : m = true := Cn.ntF h6
        refine Zk (Fb (Fn [(702, .to 701)] [0, 5] (Lr (S) ?_ ?_ Eb Hb)))
        ·
         show Cn.FB c l S
         exact hR.2.1
        ·
         show Cn.cntU c S < Cn.cntU c T
         (have h8 := hR.2.2.2 hmt; omega)
 ·
  cases hσ
end Go.Proofs.YtbpbndlgfiammaaGreatDoor.En
namespace Go.Proofs.YtbpbndlgfiammaaGreatDoor.Cn
open Go
theorem rcore_at {N : Int} {core : List Int} {i : Nat} (h0 : 0 ≤ N) (hN : N ≤ 65536) : (((!(mayP (core.getD i 0) 65536) || decide (max (core.getD i 0) (-(core.getD i 0)) > N)) || ((core.take i).drop 0).contains (core.getD i 0)) || ((core.take i).drop 0).contains (-(core.getD i 0))) = !coreAt N core i := by
  unfold coreAt
  rw [List.drop_zero]
  have h1 := @mayP_iff (core.getD i 0) 65536
  have h2 := @mayP_iff (core.getD i 0) N
  have e : (!(mayP (core.getD i 0) 65536) || decide (max (core.getD i 0) (-(core.getD i 0)) > N)) = !mayP (core.getD i 0) N := by
    rw [Bool.eq_iff_iff]
    simp only [Bool.or_eq_true, Bool.not_eq_true', decide_eq_true_eq]
    rw [← Bool.not_eq_true, ← Bool.not_eq_true, h1, h2]
    omega
  rw [e]
  cases mayP (core.getD i 0) N <;> cases (core.take i).contains (core.getD i 0) <;> cases (core.take i).contains (-(core.getD i 0)) <;> rfl
theorem core_all {N : Int} {core : List Int} (h0 : 0 ≤ N) (hN : N ≤ 65536) (h : coreOk N core = true) : ∀ j, j < core.length → -65536 ≤ core.getD j 0 ∧ core.getD j 0 ≤ 65536 := fun j hj => by
  rw [core_is, List.all_eq_true] at h
  exact core_bd h0 hN (h j (List.mem_range.2 hj))
theorem rcore_f1 {x : Int} (h : (!(!(mayP x 65536))) = true) : -9223372036854775808 ≤ -x ∧ -x ≤ 9223372036854775807 := by
  have := (mayP_iff.1 (by simpa using h : mayP x 65536 = true)).2
  omega
theorem rcore_f2 {x : Int} {b c : Bool} (h : (!((!(mayP x 65536) || b) || c)) = true) : -9223372036854775808 ≤ -x ∧ -x ≤ 9223372036854775807 := by
  cases hm : mayP x 65536 with
  | true => exact rcore_f1 (by rw [hm]; rfl)
  | false => rw [hm] at h; simp at h
theorem drop_ref {cs : List (List Int)} {x : Int × List Int} (h3 : x.1 = 3) (h : 0 ≤ idxF (fun y => alikeB y x.2) cs) : ((cs.take (idxF (fun y => alikeB y x.2) cs).toNat).drop 0) ++ ((cs.take cs.length).drop (idxF (fun y => alikeB y x.2) cs + 1).toNat) = nextC cs x := by
  rw [← next_3 h3]
  unfold dropC
  rw [if_pos h, List.drop_zero, List.take_length, List.eraseIdx_eq_take_drop_succ, show (idxF (fun y => alikeB y x.2) cs + 1).toNat = (idxF (fun y => alikeB y x.2) cs).toNat + 1 by omega]
theorem ok_place {L : List (List Int)} {l : List Int} (h : 0 ≤ idxF (fun y => alikeB y l) L) : (L.any fun y => alikeB y l) = true := by rw [← idxF_any]; exact decide_eq_true h
theorem no_place {L : List (List Int)} {l : List Int} (h : idxF (fun y => alikeB y l) L < 0) : (L.any fun y => alikeB y l) = false := by rw [← idxF_any]; exact decide_eq_false (by omega)
theorem c_checks {L : List (List Int)} {p : List (Int × List Int)} {core : List Int} (h : ((!(fewC L 60) || !(fewL p 60)) || decide ((core.length : Int) > 60)) = false) : fewC L 60 = true ∧ fewL p 60 = true ∧ core.length ≤ 60 := by
  simp only [Bool.or_eq_false_iff, Bool.not_eq_false', decide_eq_false_iff_not] at h
  exact ⟨h.1.1, h.1.2, by omega⟩
end Go.Proofs.YtbpbndlgfiammaaGreatDoor.Cn
namespace Go.Proofs.YtbpbndlgfiammaaGreatDoor.En
open Go Go.RowKit
def tyR24F : List (Nat × TD) := [(3, ⟨1, false, [.int .i64 0], [], none, 8, false, 1, 1⟩),
  (22, ⟨1, false, [.slice none 0 0], [], some 23, 24, false, 0, 0⟩),
  (23, ⟨1, false, [.slice none 0 0], [], some 3, 24, false, 0, 3⟩),
  (28, ⟨2, true, [.int .i64 0, .slice none 0 0], [(0, 3), (1, 22)], none, 32, false, 0, 6⟩),
  (29, ⟨1, false, [.slice none 0 0], [], some 43, 24, false, 0, 0⟩),
  (31, ⟨1, false, [.int .i64 0], [], none, 8, false, 1, 1⟩),
  (43, ⟨2, true, [.int .i64 0, .slice none 0 0], [(0, 3), (1, 23)], none, 32, false, 0, 7⟩)]
theorem tyR24F_ok : AllTy Tryz.prog tyR24F := ⟨⟨by kernel_rfl, by kernel_rfl, by kernel_rfl⟩, ⟨by kernel_rfl, by kernel_rfl, by kernel_rfl⟩, ⟨by kernel_rfl, by kernel_rfl, by kernel_rfl⟩, ⟨by kernel_rfl, by kernel_rfl, by kernel_rfl⟩, ⟨by kernel_rfl, by kernel_rfl, by kernel_rfl⟩, ⟨by kernel_rfl, by kernel_rfl, by kernel_rfl⟩, ⟨by kernel_rfl, by kernel_rfl, by kernel_rfl⟩, trivial⟩
def cx_q14Is : Cx := ⟨tyR24F, [], true⟩
theorem cx_q14Is_ok : CxOk Tryz.prog cx_q14Is := cx_ok tyR24F_ok trivial
def q14Is_σ : CtF
  | [.im (.val (.int .i64 l)), .im (.val (.int .i64 n))], [] => some (0 ≤ n ∧ n ≤ 65536, .bool (Cn.mayP l n), [])
  | _, _ => none
theorem q14Is_sound : Sound Tryz.prog 82 q14Is_σ := by
 refine Sw (cx := cx_q14Is) Tryz.f82 Tryz.func82 ?_
 intro wW wO wβ G0 args os p r outs hσ hp
 have hcx := cx_q14Is_ok
 unfold q14Is_σ at hσ
 split at hσ
 ·
  rename_i l n
  cases hσ
  refine ⟨by kernel_rfl, ?_⟩
  obtain ⟨hn0, hn1⟩ := hp
  refine Sz hcx [] [] [] [] (Sq hcx [] [4] [0, 1] [] [((l != 0) = true → ((l != 0) = true)), ((l != 0) = true → Fit (0 - n)), ((l != 0) = true → ((l != 0) = true)), ((l != 0) = true → ((l != 0) = true)), ((l != 0) = true → (l != 0) = true), (((l != 0) && (decide (l ≥ (0 - n)))) = true → (((l != 0) && (decide (l ≥ (0 - n)))) = true)), (((l != 0) && (decide (l ≥ (0 - n)))) = true → (((l != 0) && (decide (l ≥ (0 - n)))) = true)), (((l != 0) && (decide (l ≥ (0 - n)))) = true → ((l != 0) && (decide (l ≥ (0 - n)))) = true)] ?_ (Zr (Rv hcx (congrArg AV.bool (show (((l != 0) && (decide (l ≥ (0 - n)))) && (decide (l ≤ n))) = (Cn.mayP l n) from (by exact Cn.is_eq l n))) [] rfl)))
  ·
   refine ap ?_ (ap ?_ (ap ?_ (ap ?_ (ap (by exact id) (ap ?_ (ap ?_ (ap (by exact id) az))))))) <;>
    first | omega | exact id | exact vcNot | exact vcG | exact vcH | (intro _; omega) | exact (fun _ h => h) | (intro h; simp at h; omega) | (simp only [List.length_cons, List.length_nil, List.length_append, List.length_map, List.length_set, List.length_replicate]; omega) | (intro h; simp [h]; done) | (intro _; constructor <;> omega)
 ·
  cases hσ
def cx_q14Check : Cx := ⟨tyR24F, [(82, q14Is_σ)], true⟩
theorem cx_q14Check_ok : CxOk Tryz.prog cx_q14Check := cx_ok tyR24F_ok ⟨q14Is_sound, trivial⟩
def q14Check_σ : CtF
  | [.agg [.im (.val (.int .i64 N)), .im (.ls (.intss L))]], [] => some (L.length ≤ maxLen ∧ ∀ l ∈ L, l.length ≤ maxLen, .int (Cn.chkV N L), [])
  | _, _ => none
theorem q14Check_sound : Sound Tryz.prog 52 q14Check_σ := by
 refine Sw (cx := cx_q14Check) Tryz.f52 Tryz.func52 ?_
 intro wW wO wβ G0 args os p r outs hσ hp
 have hcx := cx_q14Check_ok
 have hmx : Tryz.prog.follows .mixedOrders = true := by kernel_rfl
 unfold q14Check_σ at hσ
 split at hσ
 ·
  rename_i N L
  cases hσ
  refine ⟨by kernel_rfl, ?_⟩
  obtain ⟨hm1, hm2⟩ := hp
  unfold maxLen at hm1
  have hm3 : ∀ k, k < L.length → (L.getD k []).length ≤ 9223372036854775807 := fun k hk => hm2 _ (Cn.getD_memL hk)
  refine Sz hcx [(1000, .frz)] [1] [0] [] (Zs (Sq hcx [] [12] [] [] [((!(decide (N < 0))) = true → ((!(decide (N < 0))) = true)), ((!(decide (N < 0))) = true → ((!(decide (N < 0))) = true)), ((decide (N < 0)) = false → (!(decide (N < 0))) = true)] ?_ (Zi (b := (decide (N < 0)) || (decide (N > 65536))) (fun h0 => ?_) fun h0 => ?_)))
  ·
   refine ap ?_ (ap ?_ (ap (by exact vcNot) az)) <;>
    first | omega | exact id | exact vcNot | exact vcG | exact vcH | (intro _; omega) | exact (fun _ h => h) | (intro h; simp at h; omega) | (simp only [List.length_cons, List.length_nil, List.length_append, List.length_map, List.length_set, List.length_replicate]; omega) | (intro h; simp [h]; done) | (constructor <;> omega)
  ·
   try simp only [Bool.or_eq_true, Bool.or_eq_false_iff, Bool.and_eq_true, Bool.and_eq_false_iff, Bool.not_eq_true', Bool.not_eq_false', decide_eq_true_eq, decide_eq_false_iff_not, bne_iff_ne, bne_eq_false_iff_eq, beq_iff_eq, beq_eq_false_iff_ne] at h0
   exact Sz hcx [] [2] [12, 1] [] (Zr (Fr (Rv hcx (congrArg AV.int (show 1 = (Cn.chkV N L) from (by exact (Cn.chk_arg (by omega)).symm))) [] rfl)))
  ·
   try simp only [Bool.or_eq_true, Bool.or_eq_false_iff, Bool.and_eq_true, Bool.and_eq_false_iff, Bool.not_eq_true', Bool.not_eq_false', decide_eq_true_eq, decide_eq_false_iff_not, bne_iff_ne, bne_eq_false_iff_eq, beq_iff_eq, beq_eq_false_iff_ne] at h0
   have hN : ¬ (N < 0 ∨ 65536 < N) := by omega
   refine Zk (Ft (Zs (Sz hcx [] [3] [12] [] (Zb (Lp (X := Nat) (fun x0 => x0 ≤ L.length ∧ ∀ j, j < x0 → Cn.badL N (L.getD j []) = false) (fun x0 => ([(1, .pto [.int N, .ls (.intss L)]), (3, .int (x0 : Int))], [])) (fun x0 => L.length - x0) (0) ?_ (Ex 3 (congrArg AV.int (show 0 = (0 : Int) from (by first | rfl | omega | (simp; done)))) Eb) Hb fun i hI => ?_)))))
   ·
    exact ⟨Nat.zero_le _, fun j hj => by omega⟩
   ·
    try dsimp only at hI
    obtain ⟨hk, hok⟩ := hI
    refine Zs (Sz hcx [] [17] [] [] (Zj (p := ((i : Int) < (L.length : Int))) (fun h1 => ?_) fun h1 => ?_))
    ·
     refine Zk (Ft (Zs (Zb (Sz hcx [] [4] [17] [] (Zb (Lp (X := Nat) (fun x0 => x0 ≤ (L.getD i []).length ∧ ∀ j, j < x0 → (!(Cn.mayP ((L.getD i []).getD j 0) N)) = false) (fun x0 => ([(1, .pto [.int N, .ls (.intss L)]), (3, .int (i : Int)), (4, .int (x0 : Int))], [])) (fun x0 => (L.getD i []).length - x0) (0) ?_ (Ex 4 (congrArg AV.int (show 0 = (0 : Int) from (by first | rfl | omega | (simp; done)))) Eb) Hb fun k hI => ?_))))))
     ·
      exact ⟨Nat.zero_le _, fun j hj => by omega⟩
     ·
      try dsimp only at hI
      obtain ⟨hkk, hik⟩ := hI
      have hm4 := hm3 i (by omega)
      refine Zs (Sq hcx [] [27] [] [] [((0 : Int) ≤ (i : Int) ∧ (i : Int) < (L.length : Int))] ?_ (Zj (p := ((k : Int) < ((L.getD i []).length : Int))) (fun h2 => ?_) fun h2 => ?_))
      ·
       refine ap ?_ az
       first | omega | exact id | exact vcNot | exact vcG | exact vcH | (intro _; omega) | exact (fun _ h => h) | (intro h; simp at h; omega) | (simp only [List.length_cons, List.length_nil, List.length_append, List.length_map, List.length_set, List.length_replicate]; omega) | (intro h; simp [h]; done) | (constructor <;> omega)
      ·
       refine Zk (Ft (Zs (Zb (Sd hcx hmx [0, 1, 0, 7, 15, 0, 63, 127, 0, 256, 1023, 2047] [] [41] [27] [] [((0 : Int) ≤ (i : Int) ∧ (i : Int) < (L.length : Int)), ((0 : Int) ≤ (k : Int) ∧ (k : Int) < ((L.getD i []).length : Int)), (0 ≤ N ∧ N ≤ 65536)] ?_ (Zi (b := !(Cn.mayP ((L.getD i []).getD k 0) N)) (fun h3 => ?_) fun h3 => ?_)))))
       ·
        refine ap ?_ (ap ?_ (ap ?_ az)) <;>
         first | omega | exact id | exact vcNot | exact vcG | exact vcH | (intro _; omega) | exact (fun _ h => h) | (intro h; simp at h; omega) | (simp only [List.length_cons, List.length_nil, List.length_append, List.length_map, List.length_set, List.length_replicate]; omega) | (intro h; simp [h]; done) | (constructor <;> omega)
       ·
        have hq := h3
        exact Sz hcx [] [2] [41, 1, 3, 4] [] (Zr (Fk (Fr (Fr (Fk (Fk (Fr (Fr (Fk (Fr (Rv hcx (congrArg AV.int (show 1 = (Cn.chkV N L) from (by exact (Cn.chk_bad hN (k := i) (by omega) (Cn.any_yes (d := 0) (k := k) (p := fun x => !(Cn.mayP x N)) (by omega) hq)).symm))) [] rfl)))))))))))
       ·
        have hq := h3
        refine Zk (Fb (Ft (Tq hcx [] [4] [41] [] [Fit ((k : Int) + 1)] ?_ (Lr (k + 1) ?_ ?_ (Ex 4 (congrArg AV.int (show ((k : Int) + 1) = ((k + 1) : Int) from (by first | rfl | omega | (simp; done)))) Eb) Hb))))
        ·
         refine ap ?_ az
         first | omega | exact id | exact vcNot | exact vcG | exact vcH | (intro _; omega) | exact (fun _ h => h) | (intro h; simp at h; omega) | (simp only [List.length_cons, List.length_nil, List.length_append, List.length_map, List.length_set, List.length_replicate]; omega) | (intro h; simp [h]; done) | (constructor <;> omega)
        ·
         exact ⟨by omega, Cn.falseSucc (f := fun j => !(Cn.mayP ((L.getD i []).getD j 0) N)) hik hq⟩
        ·
         try dsimp only
         omega
      ·
       refine Ze (Fe (Fe (Fs (Fb (Ft (Tq hcx [] [3] [27, 4] [] [Fit ((i : Int) + 1)] ?_ (Lr (i + 1) ?_ ?_ (Ex 3 (congrArg AV.int (show ((i : Int) + 1) = ((i + 1) : Int) from (by first | rfl | omega | (simp; done)))) Eb) Hb)))))))
       ·
        refine ap ?_ az
        first | omega | exact id | exact vcNot | exact vcG | exact vcH | (intro _; omega) | exact (fun _ h => h) | (intro h; simp at h; omega) | (simp only [List.length_cons, List.length_nil, List.length_append, List.length_map, List.length_set, List.length_replicate]; omega) | (intro h; simp [h]; done) | (constructor <;> omega)
       ·
        exact ⟨by omega, Cn.falseSucc (f := fun j => Cn.badL N (L.getD j [])) hok (Cn.any_no (d := 0) (fun j hj => hik j (by omega)))⟩
       ·
        show L.length - (i + 1) < L.length - i
        omega
    ·
     refine Ze (Fe (Fe (Fs (Ft (Zs (Sz hcx [] [45] [17, 1, 3] [] (Zj (p := ((L.length : Int) > 65536)) (fun h4 => ?_) fun h4 => ?_)))))))
     ·
      have hc := Cn.chk_ok hN (fun j hj => hok j (by omega))
      exact Sz hcx [] [2] [45] [] (Zr (Fr (Rv hcx (congrArg AV.int (show 2 = (Cn.chkV N L) from (by rw [hc, if_pos (by omega)]))) [] rfl)))
     ·
      have hc := Cn.chk_ok hN (fun j hj => hok j (by omega))
      exact Zk (Ft (Sz hcx [] [2] [45] [] (Zr (Rv hcx (congrArg AV.int (show 0 = (Cn.chkV N L) from (by rw [hc, if_neg (by omega)]))) [] rfl))))
 ·
  cases hσ
def cx_rWithin : Cx := ⟨tyR24F, [(41, (coeF [.ld (.ints []), .id] rHasQ_σ))], true⟩
theorem cx_rWithin_ok : CxOk Tryz.prog cx_rWithin := cx_ok tyR24F_ok ⟨(rHasQ_sound.coe [.ld (.ints []), .id] rfl), trivial⟩
def rWithin_σ : CtF
  | [.im (.ls (.ints a)), .im (.ls (.ints b))], [] => some (a.length ≤ maxLen ∧ b.length ≤ maxLen, .bool (a.all fun x => b.contains x), [])
  | _, _ => none
theorem rWithin_sound : Sound Tryz.prog 110 rWithin_σ := by
 refine Sw (cx := cx_rWithin) Tryz.f110 Tryz.func110 ?_
 intro wW wO wβ G0 args os p r outs hσ hp
 have hcx := cx_rWithin_ok
 unfold rWithin_σ at hσ
 split at hσ
 ·
  rename_i a b
  cases hσ
  refine ⟨by kernel_rfl, ?_⟩
  obtain ⟨hm1, hm2⟩ := hp
  have hm3 := hm1
  unfold maxLen at hm3
  refine Sz hcx [] [] [] [] (Zs (Sz hcx [] [7, 8, 9] [0] [] (Zb (Lp (X := Nat) (fun x0 => x0 ≤ a.length ∧ ∀ j, j < x0 → (b.contains (a.getD j 0)) = true) (fun x0 => ([(1, .ints b), (7, .ints a), (8, .int (a.length : Int)), (9, .int (x0 : Int))], [])) (fun x0 => a.length - x0) (0) ?_ (Ex 9 (congrArg AV.int (show 0 = (0 : Int) from (by first | rfl | omega | (simp; done)))) Eb) Hb fun i hI => ?_))))
  ·
   exact ⟨Nat.zero_le _, fun j hj => by omega⟩
  ·
   try dsimp only at hI
   obtain ⟨hk, hok⟩ := hI
   refine Sz hcx [] [10] [] [] (Zs (Zj (p := ((i : Int) < (a.length : Int))) (fun h0 => ?_) fun h0 => ?_))
   ·
    refine Zk (Ft (Zs (Zb (Sq hcx [] [6] [10] [] [((0 : Int) ≤ (i : Int) ∧ (i : Int) < (a.length : Int))] ?_ (Sq hcx [] [16] [6] [] [(b.length ≤ maxLen)] ?_ (Zi (b := !(b.contains (a.getD i 0))) (fun h1 => ?_) fun h1 => ?_))))))
    ·
     refine ap ?_ az
     first | omega | exact id | exact vcNot | exact vcG | exact vcH | (intro _; omega) | exact (fun _ h => h) | (intro h; simp at h; omega) | (simp only [List.length_cons, List.length_nil, List.length_append, List.length_map, List.length_set, List.length_replicate]; omega) | (intro h; simp [h]; done) | exact hm2 | done
    ·
     refine ap ?_ az
     first | omega | exact id | exact vcNot | exact vcG | exact vcH | (intro _; omega) | exact (fun _ h => h) | (intro h; simp at h; omega) | (simp only [List.length_cons, List.length_nil, List.length_append, List.length_map, List.length_set, List.length_replicate]; omega) | (intro h; simp [h]; done) | exact hm2 | done
    ·
     have hq := Cn.ntT h1
     exact Sz hcx [] [4] [16, 1, 7, 8, 9] [] (Zr (Fk (Fr (Fr (Fk (Fr (Rv hcx (congrArg AV.bool (show false = (a.all fun x => b.contains x) from (by first | exact (Cn.allD_no (d := 0) (by omega) hq).symm | exact (Cn.allD_yes (d := 0) (by omega) hok).symm | done))) [] rfl)))))))
    ·
     have hq := Cn.ntF h1
     refine Zk (Fb (Ft (Tq hcx [] [9] [16] [] [Fit ((i : Int) + 1)] ?_ (Lr (i + 1) ?_ ?_ (Ex 9 (congrArg AV.int (show ((i : Int) + 1) = ((i + 1) : Int) from (by first | rfl | omega | (simp; done)))) Eb) Hb))))
     ·
      refine ap ?_ az
      first | omega | exact id | exact vcNot | exact vcG | exact vcH | (intro _; omega) | exact (fun _ h => h) | (intro h; simp at h; omega) | (simp only [List.length_cons, List.length_nil, List.length_append, List.length_map, List.length_set, List.length_replicate]; omega) | (intro h; simp [h]; done) | exact hm2 | done
     ·
      exact ⟨by omega, fun j hj => by rcases (by omega : j < i ∨ j = i) with h | rfl; exact hok j h; exact hq⟩
     ·
      show a.length - (i + 1) < a.length - i
      omega
   ·
    exact Ze (Fe (Fe (Fs (Ft (Sz hcx [] [4] [10, 1, 7, 8, 9] [] (Zr (Rv hcx (congrArg AV.bool (show true = (a.all fun x => b.contains x) from (by first | exact (Cn.allD_no (d := 0) (by omega) hq).symm | exact (Cn.allD_yes (d := 0) (by omega) hok).symm | done))) [] rfl)))))))
 ·
  cases hσ
def cx_rAlike : Cx := ⟨tyR24F, [(110, (coeF [.ld (.ints []), .ld (.ints [])] rWithin_σ))], true⟩
theorem cx_rAlike_ok : CxOk Tryz.prog cx_rAlike := cx_ok tyR24F_ok ⟨(rWithin_sound.coe [.ld (.ints []), .ld (.ints [])] rfl), trivial⟩
def rAlike_σ : CtF
  | [.im (.ls (.ints a)), .im (.ls (.ints b))], [] => some (a.length ≤ maxLen ∧ b.length ≤ maxLen, .bool (Cn.alikeB a b), [])
  | _, _ => none
theorem rAlike_sound : Sound Tryz.prog 83 rAlike_σ := by
 refine Sw (cx := cx_rAlike) Tryz.f83 Tryz.func83 ?_
 intro wW wO wβ G0 args os p r outs hσ hp
 have hcx := cx_rAlike_ok
 unfold rAlike_σ at hσ
 split at hσ
 ·
  rename_i a b
  cases hσ
  refine ⟨by kernel_rfl, ?_⟩
  refine Sz hcx [] [] [] [] (Sq hcx [] [4] [0, 1] [] [(a.length ≤ maxLen ∧ b.length ≤ maxLen), ((a.all fun x => b.contains x) = true → ((a.all fun x => b.contains x) = true)), ((a.all fun x => b.contains x) = true → ((a.all fun x => b.contains x) = true)), ((a.all fun x => b.contains x) = true → (b.length ≤ maxLen ∧ a.length ≤ maxLen)), ((a.all fun x => b.contains x) = true → (a.all fun x => b.contains x) = true)] ?_ (Zr (Ru hcx [])))
  ·
   refine ap ?_ (ap ?_ (ap ?_ (ap ?_ (ap (by exact id) az)))) <;>
    first | omega | exact id | exact vcNot | exact vcG | exact vcH | (intro _; omega) | exact (fun _ h => h) | (intro h; simp at h; omega) | (simp only [List.length_cons, List.length_nil, List.length_append, List.length_map, List.length_set, List.length_replicate]; omega) | (intro h; simp [h]; done) | exact hp | exact (fun _ => hp.symm) | exact (fun _ => ⟨hp.2, hp.1⟩) | done
 ·
  cases hσ
def cx_rPlace : Cx := ⟨tyR24F, [(83, (coeF [.ld (.ints []), .ld (.ints [])] rAlike_σ))], true⟩
theorem cx_rPlace_ok : CxOk Tryz.prog cx_rPlace := cx_ok tyR24F_ok ⟨(rAlike_sound.coe [.ld (.ints []), .ld (.ints [])] rfl), trivial⟩
def rPlace_σ : CtF
  | [.im (.ls (.intss c)), .im (.ls (.ints l))], [] => some (c.length ≤ maxLen ∧ (∀ x ∈ c, x.length ≤ maxLen) ∧ l.length ≤ maxLen, .int (Cn.idxF (fun y => Cn.alikeB y l) c), [])
  | _, _ => none
theorem rPlace_sound : Sound Tryz.prog 54 rPlace_σ := by
 refine Sw (cx := cx_rPlace) Tryz.f54 Tryz.func54 ?_
 intro wW wO wβ G0 args os p r outs hσ hp
 have hcx := cx_rPlace_ok
 unfold rPlace_σ at hσ
 split at hσ
 ·
  rename_i c l
  cases hσ
  refine ⟨by kernel_rfl, ?_⟩
  obtain ⟨hm1, hm2, hm3⟩ := hp
  unfold maxLen at hm1
  refine Sz hcx [] [] [] [] (Zs (Sz hcx [] [7, 8, 9] [0] [] (Zb (Lp (X := Nat) (fun x0 => x0 ≤ c.length ∧ ∀ j, j < x0 → (Cn.alikeB (c.getD j []) l) = false) (fun x0 => ([(1, .ints l), (7, .intss c), (8, .int (c.length : Int)), (9, .int (x0 : Int))], [])) (fun x0 => c.length - x0) (0) ?_ (Ex 9 (congrArg AV.int (show 0 = (0 : Int) from (by first | rfl | omega | (simp; done)))) Eb) Hb fun i hI => ?_))))
  ·
   exact ⟨Nat.zero_le _, fun j hj => by omega⟩
  ·
   try dsimp only at hI
   obtain ⟨hk, hok⟩ := hI
   refine Sz hcx [] [10] [] [] (Zs (Zj (p := ((i : Int) < (c.length : Int))) (fun h0 => ?_) fun h0 => ?_))
   ·
    refine Zk (Ft (Zs (Zb (Sq hcx [] [5, 6] [10] [] [((0 : Int) ≤ (i : Int) ∧ (i : Int) < (c.length : Int))] ?_ (Sq hcx [] [16] [6] [] [((c.getD i []).length ≤ maxLen ∧ l.length ≤ maxLen)] ?_ (Zi (b := Cn.alikeB (c.getD i []) l) (fun h1 => ?_) fun h1 => ?_))))))
    ·
     refine ap ?_ az
     first | omega | exact id | exact vcNot | exact vcG | exact vcH | (intro _; omega) | exact (fun _ h => h) | (intro h; simp at h; omega) | (simp only [List.length_cons, List.length_nil, List.length_append, List.length_map, List.length_set, List.length_replicate]; omega) | (intro h; simp [h]; done) | exact ⟨hm2 _ (Cn.getD_memL (by omega)), hm3⟩ | done
    ·
     refine ap ?_ az
     first | omega | exact id | exact vcNot | exact vcG | exact vcH | (intro _; omega) | exact (fun _ h => h) | (intro h; simp at h; omega) | (simp only [List.length_cons, List.length_nil, List.length_append, List.length_map, List.length_set, List.length_replicate]; omega) | (intro h; simp [h]; done) | exact ⟨hm2 _ (Cn.getD_memL (by omega)), hm3⟩ | done
    ·
     have hq := h1
     exact Sz hcx [] [4] [16, 5, 1, 7, 8, 9] [] (Zr (Fk (Fr (Fr (Fk (Fr (Rv hcx (congrArg AV.int (show (i : Int) = (Cn.idxF (fun y => Cn.alikeB y l) c) from (by first | exact (Cn.idxF_yes (p := fun y => Cn.alikeB y l) (d := []) (by omega) hok hq).symm | exact (Cn.idxF_no (p := fun y => Cn.alikeB y l) (Cn.all_mem (d := []) (fun j hj => hok j (by omega)))).symm | done))) [] rfl)))))))
    ·
     have hq := h1
     refine Zk (Fb (Ft (Tq hcx [] [9] [16, 5] [] [Fit ((i : Int) + 1)] ?_ (Lr (i + 1) ?_ ?_ (Ex 9 (congrArg AV.int (show ((i : Int) + 1) = ((i + 1) : Int) from (by first | rfl | omega | (simp; done)))) Eb) Hb))))
     ·
      refine ap ?_ az
      first | omega | exact id | exact vcNot | exact vcG | exact vcH | (intro _; omega) | exact (fun _ h => h) | (intro h; simp at h; omega) | (simp only [List.length_cons, List.length_nil, List.length_append, List.length_map, List.length_set, List.length_replicate]; omega) | (intro h; simp [h]; done) | exact ⟨hm2 _ (Cn.getD_memL (by omega)), hm3⟩ | done
     ·
      exact ⟨by omega, fun j hj => by rcases (by omega : j < i ∨ j = i) with h | rfl; exact hok j h; exact hq⟩
     ·
      show c.length - (i + 1) < c.length - i
      omega
   ·
    exact Ze (Fe (Fe (Fs (Ft (Sz hcx [] [4] [10, 1, 7, 8, 9] [] (Zr (Rv hcx (congrArg AV.int (show (-1) = (Cn.idxF (fun y => Cn.alikeB y l) c) from (by first | exact (Cn.idxF_yes (p := fun y => Cn.alikeB y l) (d := []) (by omega) hok hq).symm | exact (Cn.idxF_no (p := fun y => Cn.alikeB y l) (Cn.all_mem (d := []) (fun j hj => hok j (by omega)))).symm | done))) [] rfl)))))))
 ·
  cases hσ
def cx_rCheckQ : Cx := ⟨tyR24F, [(52, (coeF [.agg [.id, .ld (.intss [])]] q14Check_σ)), (40, rLit_σ), (53, (coeF [.agg [.id, .ld (.ints [])]] rForm_σ)), (41, (coeF [.ld (.ints []), .id] rHasQ_σ)), (15, (coeF [.ld (.intss []), .ld (.ints [])] rFlwQ_σ)), (54, (coeF [.ld (.intss []), .ld (.ints [])] rPlace_σ))], true⟩
theorem cx_rCheckQ_ok : CxOk Tryz.prog cx_rCheckQ := cx_ok tyR24F_ok ⟨(q14Check_sound.coe [.agg [.id, .ld (.intss [])]] rfl), rLit_sound, (rForm_sound.coe [.agg [.id, .ld (.ints [])]] rfl), (rHasQ_sound.coe [.ld (.ints []), .id] rfl), (rFlwQ_sound.coe [.ld (.intss []), .ld (.ints [])] rfl), (rPlace_sound.coe [.ld (.intss []), .ld (.ints [])] rfl), trivial⟩
def rCheckQ_σ : CtF
  | [.agg [.im (.val (.int .i64 N)), .im (.ls (.intss L))], .im (.ls (.lines p)), .im (.ls (.ints core))], [] => some (L.length ≤ 1000000 ∧ (∀ x ∈ L, x.length ≤ 1000000) ∧ p.length ≤ 1000000 ∧ (∀ x ∈ p, x.2.length ≤ 1000000) ∧ core.length ≤ 1000000, .int (Cn.chkC N L p core), [])
  | _, _ => none
set_option maxRecDepth 20000 in
theorem rCheckQ_sound : Sound Tryz.prog 18 rCheckQ_σ := by
 refine Sw (cx := cx_rCheckQ) Tryz.f18 Tryz.func18 ?_
 intro wW wO wβ G0 args os p r outs hσ hp
 have hcx := cx_rCheckQ_ok
 have hmx : Tryz.prog.follows .mixedOrders = true := by kernel_rfl
 unfold rCheckQ_σ at hσ
 split at hσ
 ·
  rename_i N L p core
  cases hσ
  refine ⟨by kernel_rfl, ?_⟩
  obtain ⟨hm1, hm2, hm3, hm4, hm5⟩ := hp
  have hbg : ∀ n : Nat, n ≤ 1000000 → n ≤ maxLen := fun n hn => by unfold maxLen; omega
  refine Sz hcx [(1000, .frz)] [3] [0] [] (Zs (Sq hcx [] [7] [] [] [(L.length ≤ maxLen ∧ ∀ l ∈ L, l.length ≤ maxLen)] ?_ (Sz hcx [] [22] [] [] (Zx (a := (Cn.chkV N L)) (b := 0) (fun h0 => ?_) fun h0 => ?_))))
  ·
   refine ap ?_ az
   first | omega | exact id | exact vcNot | exact vcG | exact vcH | (intro _; omega) | exact (fun _ h => h) | (intro h; simp at h; omega) | (simp only [List.length_cons, List.length_nil, List.length_append, List.length_map, List.length_set, List.length_replicate]; omega) | (intro h; simp [h]; done) | exact True.intro | exact ⟨hbg _ hm1, fun x hx => hbg _ (hm2 x hx)⟩ | exact hbg _ (hxm (by omega)) | (have h8 := hcm (by omega); constructor <;> omega) | (constructor <;> omega) | (intro _; constructor <;> omega) | (simp only [List.length_cons, List.length_nil, List.length_map, List.length_take, List.length_drop]; omega) | (intro _; rw [List.length_drop, List.length_take]; exact hbg _ (by omega)) | exact ⟨hbg _ hm1, fun x hx => hbg _ (hm2 x hx), hbg _ (hxl (by omega))⟩ | exact ⟨hbg _ (by omega), fun x hx => hbg _ (hcs x hx), hbg _ (hxl (by omega))⟩ | exact ⟨by omega, fun x hx => hbg _ (hcs x hx), hxl (by omega)⟩ | exact ⟨by omega, fun x hx => hbg _ (hcs x hx), by rw [List.length_map, List.length_take]; omega⟩ | exact (fun h => Cn.rcore_f1 h) | exact (fun h => Cn.rcore_f2 h) | (refine ⟨by omega, fun x hx => hbg _ (hcs x hx), ?_⟩; rw [List.length_map, List.length_take]; omega)
  ·
   have hr := Cn.chk_e1 (p := p) (core := core) h0
   exact Sz hcx [] [6] [22, 7, 3, 1, 2] [] (Zr (Fr (Rv hcx (congrArg AV.int (show (Cn.chkV N L) = (Cn.chkC N L p core) from (by first | exact hr.symm | (rw [hr, hr9]; done) | done))) [] rfl)))
  ·
   have hc0 : Cn.chkV N L = 0 := by simpa using h0
   have hN := (Cn.chkV_0.1 hc0).1
   refine Zk (Ft (Zs (Sz hcx [] [26] [22, 7] [] (Zj (p := ((p.length : Int) > 65536)) (fun h1 => ?_) fun h1 => ?_))))
   ·
    have hfb := Cn.frm_big h1
    have hr := (Cn.chk_e2 (core := core) hc0 (by rw [hfb]; decide)).trans hfb
    exact Sz hcx [] [6] [26, 3, 1, 2] [] (Zr (Fr (Rv hcx (congrArg AV.int (show 2 = (Cn.chkC N L p core) from (by first | exact hr.symm | (rw [hr, hr9]; done) | done))) [] rfl)))
   ·
    have h26 := h1
    refine Zk (Ft (Zs (Sz hcx [] [27, 28, 29] [26] [] (Zb (Lp (X := Nat) (fun x0 => x0 ≤ p.length ∧ ∀ j, j < x0 → Cn.lineOk (p.getD j (0, [])) = true) (fun x0 => ([(1, .lines p), (2, .ints core), (3, .pto [.int N, .ls (.intss L)]), (27, .lines p), (28, .int (p.length : Int)), (29, .int (x0 : Int))], [])) (fun x0 => p.length - x0) (0) ?_ (Ex 29 (congrArg AV.int (show 0 = (0 : Int) from (by first | rfl | omega | (simp; done)))) Eb) Hb fun i hI => ?_)))))
    ·
     exact ⟨Nat.zero_le _, fun j hj => by omega⟩
    ·
     try dsimp only at hI
     obtain ⟨hk, hok⟩ := hI
     have hxm := fun (hi : i < p.length) => hm4 _ (Cn.getD_memL (d := (0, [])) hi)
     refine Sz hcx [] [30] [] [] (Zs (Zj (p := ((i : Int) < (p.length : Int))) (fun h2 => ?_) fun h2 => ?_))
     ·
      refine Zk (Ft (Zs (Zb (Sq hcx [(1002, .to 609)] [9] [30] [] [((0 : Int) ≤ (i : Int) ∧ (i : Int) < (p.length : Int))] ?_ (Sq hcx [] [35] [9] [609] [(((p.getD i (0, [])).2).length ≤ maxLen)] ?_ (Zi (b := !(Cn.lineOk (((p.getD i (0, [])).1), ((p.getD i (0, [])).2)))) (fun h3 => ?_) fun h3 => ?_))))))
      ·
       refine ap ?_ az
       first | omega | exact id | exact vcNot | exact vcG | exact vcH | (intro _; omega) | exact (fun _ h => h) | (intro h; simp at h; omega) | (simp only [List.length_cons, List.length_nil, List.length_append, List.length_map, List.length_set, List.length_replicate]; omega) | (intro h; simp [h]; done) | exact True.intro | exact ⟨hbg _ hm1, fun x hx => hbg _ (hm2 x hx)⟩ | exact hbg _ (hxm (by omega)) | (have h8 := hcm (by omega); constructor <;> omega) | (constructor <;> omega) | (intro _; constructor <;> omega) | (simp only [List.length_cons, List.length_nil, List.length_map, List.length_take, List.length_drop]; omega) | (intro _; rw [List.length_drop, List.length_take]; exact hbg _ (by omega)) | exact ⟨hbg _ hm1, fun x hx => hbg _ (hm2 x hx), hbg _ (hxl (by omega))⟩ | exact ⟨hbg _ (by omega), fun x hx => hbg _ (hcs x hx), hbg _ (hxl (by omega))⟩ | exact ⟨by omega, fun x hx => hbg _ (hcs x hx), hxl (by omega)⟩ | exact ⟨by omega, fun x hx => hbg _ (hcs x hx), by rw [List.length_map, List.length_take]; omega⟩ | exact (fun h => Cn.rcore_f1 h) | exact (fun h => Cn.rcore_f2 h) | (refine ⟨by omega, fun x hx => hbg _ (hcs x hx), ?_⟩; rw [List.length_map, List.length_take]; omega)
      ·
       refine ap ?_ az
       first | omega | exact id | exact vcNot | exact vcG | exact vcH | (intro _; omega) | exact (fun _ h => h) | (intro h; simp at h; omega) | (simp only [List.length_cons, List.length_nil, List.length_append, List.length_map, List.length_set, List.length_replicate]; omega) | (intro h; simp [h]; done) | exact True.intro | exact ⟨hbg _ hm1, fun x hx => hbg _ (hm2 x hx)⟩ | exact hbg _ (hxm (by omega)) | (have h8 := hcm (by omega); constructor <;> omega) | (constructor <;> omega) | (intro _; constructor <;> omega) | (simp only [List.length_cons, List.length_nil, List.length_map, List.length_take, List.length_drop]; omega) | (intro _; rw [List.length_drop, List.length_take]; exact hbg _ (by omega)) | exact ⟨hbg _ hm1, fun x hx => hbg _ (hm2 x hx), hbg _ (hxl (by omega))⟩ | exact ⟨hbg _ (by omega), fun x hx => hbg _ (hcs x hx), hbg _ (hxl (by omega))⟩ | exact ⟨by omega, fun x hx => hbg _ (hcs x hx), hxl (by omega)⟩ | exact ⟨by omega, fun x hx => hbg _ (hcs x hx), by rw [List.length_map, List.length_take]; omega⟩ | exact (fun h => Cn.rcore_f1 h) | exact (fun h => Cn.rcore_f2 h) | (refine ⟨by omega, fun x hx => hbg _ (hcs x hx), ?_⟩; rw [List.length_map, List.length_take]; omega)
      ·
       have hq := Cn.ntT h3
       have hfb := Cn.frm_bad (by omega) (by omega) hq
       have hr := (Cn.chk_e2 (core := core) hc0 (by rw [hfb]; decide)).trans hfb
       exact Sz hcx [] [6] [35, 1, 2, 3, 27, 28, 29] [] (Zr (Fk (Fr (Fr (Fk (Fr (Rv hcx (congrArg AV.int (show 1 = (Cn.chkC N L p core) from (by first | exact hr.symm | (rw [hr, hr9]; done) | done))) [] rfl)))))))
      ·
       have hq := Cn.ntF h3
       refine Zk (Fb (Ft (Tq hcx [] [29] [35] [] [Fit ((i : Int) + 1)] ?_ (Lr (i + 1) ?_ ?_ (Ex 29 (congrArg AV.int (show ((i : Int) + 1) = ((i + 1) : Int) from (by first | rfl | omega | (simp; done)))) Eb) Hb))))
       ·
        refine ap ?_ az
        first | omega | exact id | exact vcNot | exact vcG | exact vcH | (intro _; omega) | exact (fun _ h => h) | (intro h; simp at h; omega) | (simp only [List.length_cons, List.length_nil, List.length_append, List.length_map, List.length_set, List.length_replicate]; omega) | (intro h; simp [h]; done) | exact True.intro | exact ⟨hbg _ hm1, fun x hx => hbg _ (hm2 x hx)⟩ | exact hbg _ (hxm (by omega)) | (have h8 := hcm (by omega); constructor <;> omega) | (constructor <;> omega) | (intro _; constructor <;> omega) | (simp only [List.length_cons, List.length_nil, List.length_map, List.length_take, List.length_drop]; omega) | (intro _; rw [List.length_drop, List.length_take]; exact hbg _ (by omega)) | exact ⟨hbg _ hm1, fun x hx => hbg _ (hm2 x hx), hbg _ (hxl (by omega))⟩ | exact ⟨hbg _ (by omega), fun x hx => hbg _ (hcs x hx), hbg _ (hxl (by omega))⟩ | exact ⟨by omega, fun x hx => hbg _ (hcs x hx), hxl (by omega)⟩ | exact ⟨by omega, fun x hx => hbg _ (hcs x hx), by rw [List.length_map, List.length_take]; omega⟩ | exact (fun h => Cn.rcore_f1 h) | exact (fun h => Cn.rcore_f2 h) | (refine ⟨by omega, fun x hx => hbg _ (hcs x hx), ?_⟩; rw [List.length_map, List.length_take]; omega)
       ·
        exact ⟨by omega, fun j hj => by rcases (by omega : j < i ∨ j = i) with h | rfl; exact hok j h; exact hq⟩
       ·
        show p.length - (i + 1) < p.length - i
        omega
     ·
      have hf0 := Cn.frm_good (by omega) (by omega) hok
      refine Ze (Fe (Fe (Fs (Ft (Zs (Sz hcx [] [37, 38, 39] [30, 27, 28, 29] [] (Zb (Lp (X := Nat) (fun x0 => x0 ≤ core.length ∧ ∀ m, m < x0 → Cn.coreAt N core m = true) (fun x0 => ([(1, .lines p), (2, .ints core), (3, .pto [.int N, .ls (.intss L)]), (37, .ints core), (38, .int (core.length : Int)), (39, .int (x0 : Int))], [])) (fun x0 => core.length - x0) (0) ?_ (Ex 39 (congrArg AV.int (show 0 = (0 : Int) from (by first | rfl | omega | (simp; done)))) Eb) Hb fun j hI => ?_))))))))
      ·
       exact ⟨Nat.zero_le _, fun j hj => by omega⟩
      ·
       try dsimp only at hI
       obtain ⟨hj, hcok⟩ := hI
       refine Sz hcx [] [40] [] [] (Zs (Zj (p := ((j : Int) < (core.length : Int))) (fun h4 => ?_) fun h4 => ?_))
       ·
        refine Zk (Ft (Zs (Zb (Sq hcx [] [10, 11] [40] [] [((0 : Int) ≤ (j : Int) ∧ (j : Int) < (core.length : Int))] ?_ (Sq hcx [] [70] [10, 11] [] [(True), ((!(!(Cn.mayP (core.getD j 0) 65536))) = true → ((!(!(Cn.mayP (core.getD j 0) 65536))) = true)), ((!(!(Cn.mayP (core.getD j 0) 65536))) = true → Fit (-(core.getD j 0))), ((!(!(Cn.mayP (core.getD j 0) 65536))) = true → ((!(!(Cn.mayP (core.getD j 0) 65536))) = true)), ((!(!(Cn.mayP (core.getD j 0) 65536))) = true → ((!(!(Cn.mayP (core.getD j 0) 65536))) = true)), ((!(!(Cn.mayP (core.getD j 0) 65536))) = true → ((!(!(Cn.mayP (core.getD j 0) 65536))) = true)), ((!(!(Cn.mayP (core.getD j 0) 65536))) = true → ((!(!(Cn.mayP (core.getD j 0) 65536))) = true)), ((!(!(Cn.mayP (core.getD j 0) 65536))) = true → ((!(!(Cn.mayP (core.getD j 0) 65536))) = true)), ((!(Cn.mayP (core.getD j 0) 65536)) = false → (!(!(Cn.mayP (core.getD j 0) 65536))) = true), ((!((!(Cn.mayP (core.getD j 0) 65536)) || (decide ((max (core.getD j 0) (-(core.getD j 0))) > N)))) = true → ((!((!(Cn.mayP (core.getD j 0) 65536)) || (decide ((max (core.getD j 0) (-(core.getD j 0))) > N)))) = true)), ((!((!(Cn.mayP (core.getD j 0) 65536)) || (decide ((max (core.getD j 0) (-(core.getD j 0))) > N)))) = true → ((!((!(Cn.mayP (core.getD j 0) 65536)) || (decide ((max (core.getD j 0) (-(core.getD j 0))) > N)))) = true)), ((!((!(Cn.mayP (core.getD j 0) 65536)) || (decide ((max (core.getD j 0) (-(core.getD j 0))) > N)))) = true → ((0 : Int) ≤ (j : Int) ∧ (j : Int) ≤ (core.length : Int))), ((!((!(Cn.mayP (core.getD j 0) 65536)) || (decide ((max (core.getD j 0) (-(core.getD j 0))) > N)))) = true → ((!((!(Cn.mayP (core.getD j 0) 65536)) || (decide ((max (core.getD j 0) (-(core.getD j 0))) > N)))) = true)), ((!((!(Cn.mayP (core.getD j 0) 65536)) || (decide ((max (core.getD j 0) (-(core.getD j 0))) > N)))) = true → ((!((!(Cn.mayP (core.getD j 0) 65536)) || (decide ((max (core.getD j 0) (-(core.getD j 0))) > N)))) = true)), ((!((!(Cn.mayP (core.getD j 0) 65536)) || (decide ((max (core.getD j 0) (-(core.getD j 0))) > N)))) = true → (((core.take j).drop 0).length ≤ maxLen)), (((!(Cn.mayP (core.getD j 0) 65536)) || (decide ((max (core.getD j 0) (-(core.getD j 0))) > N))) = false → (!((!(Cn.mayP (core.getD j 0) 65536)) || (decide ((max (core.getD j 0) (-(core.getD j 0))) > N)))) = true), ((!(((!(Cn.mayP (core.getD j 0) 65536)) || (decide ((max (core.getD j 0) (-(core.getD j 0))) > N))) || (((core.take j).drop 0).contains (core.getD j 0)))) = true → ((!(((!(Cn.mayP (core.getD j 0) 65536)) || (decide ((max (core.getD j 0) (-(core.getD j 0))) > N))) || (((core.take j).drop 0).contains (core.getD j 0)))) = true)), ((!(((!(Cn.mayP (core.getD j 0) 65536)) || (decide ((max (core.getD j 0) (-(core.getD j 0))) > N))) || (((core.take j).drop 0).contains (core.getD j 0)))) = true → ((!(((!(Cn.mayP (core.getD j 0) 65536)) || (decide ((max (core.getD j 0) (-(core.getD j 0))) > N))) || (((core.take j).drop 0).contains (core.getD j 0)))) = true)), ((!(((!(Cn.mayP (core.getD j 0) 65536)) || (decide ((max (core.getD j 0) (-(core.getD j 0))) > N))) || (((core.take j).drop 0).contains (core.getD j 0)))) = true → ((0 : Int) ≤ (j : Int) ∧ (j : Int) ≤ (core.length : Int))), ((!(((!(Cn.mayP (core.getD j 0) 65536)) || (decide ((max (core.getD j 0) (-(core.getD j 0))) > N))) || (((core.take j).drop 0).contains (core.getD j 0)))) = true → ((!(((!(Cn.mayP (core.getD j 0) 65536)) || (decide ((max (core.getD j 0) (-(core.getD j 0))) > N))) || (((core.take j).drop 0).contains (core.getD j 0)))) = true)), ((!(((!(Cn.mayP (core.getD j 0) 65536)) || (decide ((max (core.getD j 0) (-(core.getD j 0))) > N))) || (((core.take j).drop 0).contains (core.getD j 0)))) = true → Fit (-(core.getD j 0))), ((!(((!(Cn.mayP (core.getD j 0) 65536)) || (decide ((max (core.getD j 0) (-(core.getD j 0))) > N))) || (((core.take j).drop 0).contains (core.getD j 0)))) = true → ((!(((!(Cn.mayP (core.getD j 0) 65536)) || (decide ((max (core.getD j 0) (-(core.getD j 0))) > N))) || (((core.take j).drop 0).contains (core.getD j 0)))) = true)), ((!(((!(Cn.mayP (core.getD j 0) 65536)) || (decide ((max (core.getD j 0) (-(core.getD j 0))) > N))) || (((core.take j).drop 0).contains (core.getD j 0)))) = true → ((!(((!(Cn.mayP (core.getD j 0) 65536)) || (decide ((max (core.getD j 0) (-(core.getD j 0))) > N))) || (((core.take j).drop 0).contains (core.getD j 0)))) = true)), ((!(((!(Cn.mayP (core.getD j 0) 65536)) || (decide ((max (core.getD j 0) (-(core.getD j 0))) > N))) || (((core.take j).drop 0).contains (core.getD j 0)))) = true → (((core.take j).drop 0).length ≤ maxLen)), ((((!(Cn.mayP (core.getD j 0) 65536)) || (decide ((max (core.getD j 0) (-(core.getD j 0))) > N))) || (((core.take j).drop 0).contains (core.getD j 0))) = false → (!(((!(Cn.mayP (core.getD j 0) 65536)) || (decide ((max (core.getD j 0) (-(core.getD j 0))) > N))) || (((core.take j).drop 0).contains (core.getD j 0)))) = true)] ?_ (Zi (b := (((!(Cn.mayP (core.getD j 0) 65536)) || (decide ((max (core.getD j 0) (-(core.getD j 0))) > N))) || (((core.take j).drop 0).contains (core.getD j 0))) || (((core.take j).drop 0).contains (-(core.getD j 0)))) (fun h5 => ?_) fun h5 => ?_))))))
        ·
         refine ap ?_ az
         first | omega | exact id | exact vcNot | exact vcG | exact vcH | (intro _; omega) | exact (fun _ h => h) | (intro h; simp at h; omega) | (simp only [List.length_cons, List.length_nil, List.length_append, List.length_map, List.length_set, List.length_replicate]; omega) | (intro h; simp [h]; done) | exact True.intro | exact ⟨hbg _ hm1, fun x hx => hbg _ (hm2 x hx)⟩ | exact hbg _ (hxm (by omega)) | (have h8 := hcm (by omega); constructor <;> omega) | (constructor <;> omega) | (intro _; constructor <;> omega) | (simp only [List.length_cons, List.length_nil, List.length_map, List.length_take, List.length_drop]; omega) | (intro _; rw [List.length_drop, List.length_take]; exact hbg _ (by omega)) | exact ⟨hbg _ hm1, fun x hx => hbg _ (hm2 x hx), hbg _ (hxl (by omega))⟩ | exact ⟨hbg _ (by omega), fun x hx => hbg _ (hcs x hx), hbg _ (hxl (by omega))⟩ | exact ⟨by omega, fun x hx => hbg _ (hcs x hx), hxl (by omega)⟩ | exact ⟨by omega, fun x hx => hbg _ (hcs x hx), by rw [List.length_map, List.length_take]; omega⟩ | exact (fun h => Cn.rcore_f1 h) | exact (fun h => Cn.rcore_f2 h) | (refine ⟨by omega, fun x hx => hbg _ (hcs x hx), ?_⟩; rw [List.length_map, List.length_take]; omega)
        ·
         refine ap ?_ (ap ?_ (ap ?_ (ap ?_ (ap ?_ (ap ?_ (ap ?_ (ap ?_ (ap (by exact vcNot) (ap ?_ (ap ?_ (ap ?_ (ap ?_ (ap ?_ (ap ?_ (ap (by exact vcNot) (ap ?_ (ap ?_ (ap ?_ (ap ?_ (ap ?_ (ap ?_ (ap ?_ (ap ?_ (ap (by exact vcNot) az)))))))))))))))))))))))) <;>
          first | omega | exact id | exact vcNot | exact vcG | exact vcH | (intro _; omega) | exact (fun _ h => h) | (intro h; simp at h; omega) | (simp only [List.length_cons, List.length_nil, List.length_append, List.length_map, List.length_set, List.length_replicate]; omega) | (intro h; simp [h]; done) | exact True.intro | exact ⟨hbg _ hm1, fun x hx => hbg _ (hm2 x hx)⟩ | exact hbg _ (hxm (by omega)) | (have h8 := hcm (by omega); constructor <;> omega) | (constructor <;> omega) | (intro _; constructor <;> omega) | (simp only [List.length_cons, List.length_nil, List.length_map, List.length_take, List.length_drop]; omega) | (intro _; rw [List.length_drop, List.length_take]; exact hbg _ (by omega)) | exact ⟨hbg _ hm1, fun x hx => hbg _ (hm2 x hx), hbg _ (hxl (by omega))⟩ | exact ⟨hbg _ (by omega), fun x hx => hbg _ (hcs x hx), hbg _ (hxl (by omega))⟩ | exact ⟨by omega, fun x hx => hbg _ (hcs x hx), hxl (by omega)⟩ | exact ⟨by omega, fun x hx => hbg _ (hcs x hx), by rw [List.length_map, List.length_take]; omega⟩ | exact (fun h => Cn.rcore_f1 h) | exact (fun h => Cn.rcore_f2 h) | (refine ⟨by omega, fun x hx => hbg _ (hcs x hx), ?_⟩; rw [List.length_map, List.length_take]; omega)
        ·
         have hq := Cn.ntT ((Cn.rcore_at hN.1 hN.2).symm.trans h5)
         have hr := Cn.chk_e3 (p := p) hc0 hf0 (Cn.core_no (by omega) hq)
         exact Sz hcx [] [6] [70, 1, 2, 3, 37, 38, 39] [] (Zr (Fk (Fr (Fr (Fk (Fr (Rv hcx (congrArg AV.int (show 1 = (Cn.chkC N L p core) from (by first | exact hr.symm | (rw [hr, hr9]; done) | done))) [] rfl)))))))
        ·
         have hq := Cn.ntF ((Cn.rcore_at hN.1 hN.2).symm.trans h5)
         refine Zk (Fb (Ft (Tq hcx [] [39] [70] [] [Fit ((j : Int) + 1)] ?_ (Lr (j + 1) ?_ ?_ (Ex 39 (congrArg AV.int (show ((j : Int) + 1) = ((j + 1) : Int) from (by first | rfl | omega | (simp; done)))) Eb) Hb))))
         ·
          refine ap ?_ az
          first | omega | exact id | exact vcNot | exact vcG | exact vcH | (intro _; omega) | exact (fun _ h => h) | (intro h; simp at h; omega) | (simp only [List.length_cons, List.length_nil, List.length_append, List.length_map, List.length_set, List.length_replicate]; omega) | (intro h; simp [h]; done) | exact True.intro | exact ⟨hbg _ hm1, fun x hx => hbg _ (hm2 x hx)⟩ | exact hbg _ (hxm (by omega)) | (have h8 := hcm (by omega); constructor <;> omega) | (constructor <;> omega) | (intro _; constructor <;> omega) | (simp only [List.length_cons, List.length_nil, List.length_map, List.length_take, List.length_drop]; omega) | (intro _; rw [List.length_drop, List.length_take]; exact hbg _ (by omega)) | exact ⟨hbg _ hm1, fun x hx => hbg _ (hm2 x hx), hbg _ (hxl (by omega))⟩ | exact ⟨hbg _ (by omega), fun x hx => hbg _ (hcs x hx), hbg _ (hxl (by omega))⟩ | exact ⟨by omega, fun x hx => hbg _ (hcs x hx), hxl (by omega)⟩ | exact ⟨by omega, fun x hx => hbg _ (hcs x hx), by rw [List.length_map, List.length_take]; omega⟩ | exact (fun h => Cn.rcore_f1 h) | exact (fun h => Cn.rcore_f2 h) | (refine ⟨by omega, fun x hx => hbg _ (hcs x hx), ?_⟩; rw [List.length_map, List.length_take]; omega)
         ·
          exact ⟨by omega, fun m hm => by rcases (by omega : m < j ∨ m = j) with h | rfl; exact hcok m h; exact hq⟩
         ·
          show core.length - (j + 1) < core.length - j
          omega
       ·
        have hco := Cn.core_yes (n := j) (by omega) hcok
        have hcb := Cn.core_all hN.1 hN.2 hco
        refine Ze (Fe (Fe (Fs (Ft (Sz hcx [] [12] [40, 37, 38, 39] [] (Zs (Sz hcx [] [72, 73, 74] [1] [] (Zb (Zw 12 701 23 (.intss []) (Lp (X := Nat × List (List Int)) (fun x0 => x0.1 ≤ p.length ∧ Cn.runC L [] (p.take x0.1) = some x0.2 ∧ x0.2.length ≤ x0.1 ∧ ∀ x ∈ x0.2, x.length ≤ 1000000) (fun x0 => ([(2, .ints core), (3, .pto [.int N, .ls (.intss L)]), (12, .row 701), (72, .lines p), (73, .int (p.length : Int)), (74, .int (x0.1 : Int))], [(701, .row 23 (.intss x0.2))])) (fun x0 => p.length - x0.1) (0, ([] : List (List Int))) ?_ (Ex 74 (congrArg AV.int (show 0 = (0 : Int) from (by first | rfl | omega | (simp; done)))) Eb) Hb fun ⟨k, cs⟩ hI => ?_))))))))))
        ·
         try dsimp only
         exact ⟨Nat.zero_le _, rfl, Nat.le_refl _, fun x hx => by cases hx⟩
        ·
         try dsimp only at hI
         obtain ⟨hi, hrun, hcl, hcs⟩ := hI
         have hki : k < p.length → _ := fun h => Cn.line_kind hf0 (i := k) h
         have hxl : k < p.length → _ := fun h => hm4 _ (Cn.getD_memL (d := (0, [])) (k := k) h)
         refine Sz hcx [] [75] [] [] (Zs (Zj (p := ((k : Int) < (p.length : Int))) (fun h6 => ?_) fun h6 => ?_))
         ·
          refine Zk (Ft (Zs (Zb (Sq hcx [(1002, .to 614)] [14] [75] [] [((0 : Int) ≤ (k : Int) ∧ (k : Int) < (p.length : Int))] ?_ (Sz hcx [] [79] [] [] (Zb (Sz hcx [] [95] [] [] (Zu (a := ((p.getD k (0, [])).1)) (b := 1) (fun h7 => ?_) fun h7 => ?_))))))))
          ·
           refine ap ?_ az
           first | omega | exact id | exact vcNot | exact vcG | exact vcH | (intro _; omega) | exact (fun _ h => h) | (intro h; simp at h; omega) | (simp only [List.length_cons, List.length_nil, List.length_append, List.length_map, List.length_set, List.length_replicate]; omega) | (intro h; simp [h]; done) | exact True.intro | exact ⟨hbg _ hm1, fun x hx => hbg _ (hm2 x hx)⟩ | exact hbg _ (hxm (by omega)) | (have h8 := hcm (by omega); constructor <;> omega) | (constructor <;> omega) | (intro _; constructor <;> omega) | (simp only [List.length_cons, List.length_nil, List.length_map, List.length_take, List.length_drop]; omega) | (intro _; rw [List.length_drop, List.length_take]; exact hbg _ (by omega)) | exact ⟨hbg _ hm1, fun x hx => hbg _ (hm2 x hx), hbg _ (hxl (by omega))⟩ | exact ⟨hbg _ (by omega), fun x hx => hbg _ (hcs x hx), hbg _ (hxl (by omega))⟩ | exact ⟨by omega, fun x hx => hbg _ (hcs x hx), hxl (by omega)⟩ | exact ⟨by omega, fun x hx => hbg _ (hcs x hx), by rw [List.length_map, List.length_take]; omega⟩ | exact (fun h => Cn.rcore_f1 h) | exact (fun h => Cn.rcore_f2 h) | (refine ⟨by omega, fun x hx => hbg _ (hcs x hx), ?_⟩; rw [List.length_map, List.length_take]; omega)
          ·
           have h95 := h7
           refine Zs (Sq hcx [] [102] [95, 79] [] [(L.length ≤ maxLen ∧ (∀ x ∈ L, x.length ≤ maxLen) ∧ ((p.getD k (0, [])).2).length ≤ maxLen)] ?_ (Zj (p := ((Cn.idxF (fun y => Cn.alikeB y ((p.getD k (0, [])).2)) L) < 0)) (fun h8 => ?_) fun h8 => ?_))
           ·
            refine ap ?_ az
            first | omega | exact id | exact vcNot | exact vcG | exact vcH | (intro _; omega) | exact (fun _ h => h) | (intro h; simp at h; omega) | (simp only [List.length_cons, List.length_nil, List.length_append, List.length_map, List.length_set, List.length_replicate]; omega) | (intro h; simp [h]; done) | exact True.intro | exact ⟨hbg _ hm1, fun x hx => hbg _ (hm2 x hx)⟩ | exact hbg _ (hxm (by omega)) | (have h8 := hcm (by omega); constructor <;> omega) | (constructor <;> omega) | (intro _; constructor <;> omega) | (simp only [List.length_cons, List.length_nil, List.length_map, List.length_take, List.length_drop]; omega) | (intro _; rw [List.length_drop, List.length_take]; exact hbg _ (by omega)) | exact ⟨hbg _ hm1, fun x hx => hbg _ (hm2 x hx), hbg _ (hxl (by omega))⟩ | exact ⟨hbg _ (by omega), fun x hx => hbg _ (hcs x hx), hbg _ (hxl (by omega))⟩ | exact ⟨by omega, fun x hx => hbg _ (hcs x hx), hxl (by omega)⟩ | exact ⟨by omega, fun x hx => hbg _ (hcs x hx), by rw [List.length_map, List.length_take]; omega⟩ | exact (fun h => Cn.rcore_f1 h) | exact (fun h => Cn.rcore_f2 h) | (refine ⟨by omega, fun x hx => hbg _ (hcs x hx), ?_⟩; rw [List.length_map, List.length_take]; omega)
           ·
            have hki2 := hki (by omega)
            have hok9 : Cn.okC L cs (p.getD k (0, [])) = false := by rw [Cn.ok_1 h95]; exact Cn.no_place h8
            have hr := (Cn.chk_e4 hc0 hf0 hco).trans (congrArg (Cn.endC core) (Cn.run_stop (by omega) hrun hki2.1 hki2.2 hok9))
            have hr9 : Cn.endC core none = 250 := rfl
            exact Sz hcx [] [6] [102, 14, 2, 3, 12, 72, 73, 74] [614, 701] (Zr (Fr (Fk (Fk (Fr (Fr (Fk (Fr (Rv hcx (congrArg AV.int (show 250 = (Cn.chkC N L p core) from (by first | exact hr.symm | (rw [hr, hr9]; done) | done))) [] rfl)))))))))
           ·
            have hok9 : Cn.okC L cs (p.getD k (0, [])) = true := by rw [Cn.ok_1 h95]; exact Cn.ok_place (by omega)
            refine Zk (Ft (Tq hcx [(1004, .to 701)] [12] [102, 14] [614, 701] [((cs.length + [(p.getD k (0, [])).2].length) * 24 ≤ 140737488355328)] ?_ (Fb (Fb (Ft (Tq hcx [] [74] [] [] [Fit ((k : Int) + 1)] ?_ (Lr (k + 1, (Cn.nextC cs (p.getD k (0, [])))) ?_ ?_ (Ex 74 (congrArg AV.int (show ((k : Int) + 1) = ((k + 1) : Int) from (by first | rfl | omega | (simp; done)))) Eb) (Hx 701 (congrArg (fun x => AObj.row 23 (.intss x)) (show (cs ++ [(p.getD k (0, [])).2]) = (Cn.nextC cs (p.getD k (0, []))) from (by first | exact Cn.next_1 (by omega) | exact Cn.drop_ref h108 (by omega)))) Hb))))))))
            ·
             refine ap ?_ az
             first | omega | exact id | exact vcNot | exact vcG | exact vcH | (intro _; omega) | exact (fun _ h => h) | (intro h; simp at h; omega) | (simp only [List.length_cons, List.length_nil, List.length_append, List.length_map, List.length_set, List.length_replicate]; omega) | (intro h; simp [h]; done) | exact True.intro | exact ⟨hbg _ hm1, fun x hx => hbg _ (hm2 x hx)⟩ | exact hbg _ (hxm (by omega)) | (have h8 := hcm (by omega); constructor <;> omega) | (constructor <;> omega) | (intro _; constructor <;> omega) | (simp only [List.length_cons, List.length_nil, List.length_map, List.length_take, List.length_drop]; omega) | (intro _; rw [List.length_drop, List.length_take]; exact hbg _ (by omega)) | exact ⟨hbg _ hm1, fun x hx => hbg _ (hm2 x hx), hbg _ (hxl (by omega))⟩ | exact ⟨hbg _ (by omega), fun x hx => hbg _ (hcs x hx), hbg _ (hxl (by omega))⟩ | exact ⟨by omega, fun x hx => hbg _ (hcs x hx), hxl (by omega)⟩ | exact ⟨by omega, fun x hx => hbg _ (hcs x hx), by rw [List.length_map, List.length_take]; omega⟩ | exact (fun h => Cn.rcore_f1 h) | exact (fun h => Cn.rcore_f2 h) | (refine ⟨by omega, fun x hx => hbg _ (hcs x hx), ?_⟩; rw [List.length_map, List.length_take]; omega)
            ·
             refine ap ?_ az
             first | omega | exact id | exact vcNot | exact vcG | exact vcH | (intro _; omega) | exact (fun _ h => h) | (intro h; simp at h; omega) | (simp only [List.length_cons, List.length_nil, List.length_append, List.length_map, List.length_set, List.length_replicate]; omega) | (intro h; simp [h]; done) | exact True.intro | exact ⟨hbg _ hm1, fun x hx => hbg _ (hm2 x hx)⟩ | exact hbg _ (hxm (by omega)) | (have h8 := hcm (by omega); constructor <;> omega) | (constructor <;> omega) | (intro _; constructor <;> omega) | (simp only [List.length_cons, List.length_nil, List.length_map, List.length_take, List.length_drop]; omega) | (intro _; rw [List.length_drop, List.length_take]; exact hbg _ (by omega)) | exact ⟨hbg _ hm1, fun x hx => hbg _ (hm2 x hx), hbg _ (hxl (by omega))⟩ | exact ⟨hbg _ (by omega), fun x hx => hbg _ (hcs x hx), hbg _ (hxl (by omega))⟩ | exact ⟨by omega, fun x hx => hbg _ (hcs x hx), hxl (by omega)⟩ | exact ⟨by omega, fun x hx => hbg _ (hcs x hx), by rw [List.length_map, List.length_take]; omega⟩ | exact (fun h => Cn.rcore_f1 h) | exact (fun h => Cn.rcore_f2 h) | (refine ⟨by omega, fun x hx => hbg _ (hcs x hx), ?_⟩; rw [List.length_map, List.length_take]; omega)
            ·
             try dsimp only
             (have h8 := Cn.next_len cs (p.getD k (0, [])); exact ⟨by omega, Cn.run_next (by omega) hrun (hki (by omega)).1 (hki (by omega)).2 hok9, by omega, fun x hx => by rcases Cn.next_mem hx with h | h; exact hcs x h; rw [h]; exact hxl (by omega)⟩)
            ·
             show p.length - (k + 1) < p.length - k
             omega
          ·
           have h95 := h7
           refine Sz hcx [] [108] [95, 79] [] (Zu (a := ((p.getD k (0, [])).1)) (b := 2) (fun h9 => ?_) fun h9 => ?_)
           ·
            have h108 := h9
            refine Zs (Sq hcx [] [114] [108] [] [(cs.length ≤ 1000000 ∧ (∀ x ∈ cs, x.length ≤ maxLen) ∧ ((p.getD k (0, [])).2).length ≤ 1000000)] ?_ (Zi (b := !(Cn.flwV cs ((p.getD k (0, [])).2))) (fun h10 => ?_) fun h10 => ?_))
            ·
             refine ap ?_ az
             first | omega | exact id | exact vcNot | exact vcG | exact vcH | (intro _; omega) | exact (fun _ h => h) | (intro h; simp at h; omega) | (simp only [List.length_cons, List.length_nil, List.length_append, List.length_map, List.length_set, List.length_replicate]; omega) | (intro h; simp [h]; done) | exact True.intro | exact ⟨hbg _ hm1, fun x hx => hbg _ (hm2 x hx)⟩ | exact hbg _ (hxm (by omega)) | (have h8 := hcm (by omega); constructor <;> omega) | (constructor <;> omega) | (intro _; constructor <;> omega) | (simp only [List.length_cons, List.length_nil, List.length_map, List.length_take, List.length_drop]; omega) | (intro _; rw [List.length_drop, List.length_take]; exact hbg _ (by omega)) | exact ⟨hbg _ hm1, fun x hx => hbg _ (hm2 x hx), hbg _ (hxl (by omega))⟩ | exact ⟨hbg _ (by omega), fun x hx => hbg _ (hcs x hx), hbg _ (hxl (by omega))⟩ | exact ⟨by omega, fun x hx => hbg _ (hcs x hx), hxl (by omega)⟩ | exact ⟨by omega, fun x hx => hbg _ (hcs x hx), by rw [List.length_map, List.length_take]; omega⟩ | exact (fun h => Cn.rcore_f1 h) | exact (fun h => Cn.rcore_f2 h) | (refine ⟨by omega, fun x hx => hbg _ (hcs x hx), ?_⟩; rw [List.length_map, List.length_take]; omega)
            ·
             have hki2 := hki (by omega)
             have hok9 : Cn.okC L cs (p.getD k (0, [])) = false := by rw [Cn.ok_2 h108]; exact Cn.ntT h10
             have hr := (Cn.chk_e4 hc0 hf0 hco).trans (congrArg (Cn.endC core) (Cn.run_stop (by omega) hrun hki2.1 hki2.2 hok9))
             have hr9 : Cn.endC core none = 250 := rfl
             exact Sz hcx [] [6] [114, 14, 2, 3, 12, 72, 73, 74] [614, 701] (Zr (Fr (Fk (Fk (Fr (Fr (Fk (Fr (Rv hcx (congrArg AV.int (show 250 = (Cn.chkC N L p core) from (by first | exact hr.symm | (rw [hr, hr9]; done) | done))) [] rfl)))))))))
            ·
             have hok9 : Cn.okC L cs (p.getD k (0, [])) = true := by rw [Cn.ok_2 h108]; exact Cn.ntF h10
             refine Zk (Ft (Tq hcx [(1004, .to 701)] [12] [114, 14] [614, 701] [((cs.length + [(p.getD k (0, [])).2].length) * 24 ≤ 140737488355328)] ?_ (Fb (Fb (Ft (Tq hcx [] [74] [] [] [Fit ((k : Int) + 1)] ?_ (Lr (k + 1, (Cn.nextC cs (p.getD k (0, [])))) ?_ ?_ (Ex 74 (congrArg AV.int (show ((k : Int) + 1) = ((k + 1) : Int) from (by first | rfl | omega | (simp; done)))) Eb) (Hx 701 (congrArg (fun x => AObj.row 23 (.intss x)) (show (cs ++ [(p.getD k (0, [])).2]) = (Cn.nextC cs (p.getD k (0, []))) from (by first | exact Cn.next_1 (by omega) | exact Cn.drop_ref h108 (by omega)))) Hb))))))))
             ·
              refine ap ?_ az
              first | omega | exact id | exact vcNot | exact vcG | exact vcH | (intro _; omega) | exact (fun _ h => h) | (intro h; simp at h; omega) | (simp only [List.length_cons, List.length_nil, List.length_append, List.length_map, List.length_set, List.length_replicate]; omega) | (intro h; simp [h]; done) | exact True.intro | exact ⟨hbg _ hm1, fun x hx => hbg _ (hm2 x hx)⟩ | exact hbg _ (hxm (by omega)) | (have h8 := hcm (by omega); constructor <;> omega) | (constructor <;> omega) | (intro _; constructor <;> omega) | (simp only [List.length_cons, List.length_nil, List.length_map, List.length_take, List.length_drop]; omega) | (intro _; rw [List.length_drop, List.length_take]; exact hbg _ (by omega)) | exact ⟨hbg _ hm1, fun x hx => hbg _ (hm2 x hx), hbg _ (hxl (by omega))⟩ | exact ⟨hbg _ (by omega), fun x hx => hbg _ (hcs x hx), hbg _ (hxl (by omega))⟩ | exact ⟨by omega, fun x hx => hbg _ (hcs x hx), hxl (by omega)⟩ | exact ⟨by omega, fun x hx => hbg _ (hcs x hx), by rw [List.length_map, List.length_take]; omega⟩ | exact (fun h => Cn.rcore_f1 h) | exact (fun h => Cn.rcore_f2 h) | (refine ⟨by omega, fun x hx => hbg _ (hcs x hx), ?_⟩; rw [List.length_map, List.length_take]; omega)
             ·
              refine ap ?_ az
              first | omega | exact id | exact vcNot | exact vcG | exact vcH | (intro _; omega) | exact (fun _ h => h) | (intro h; simp at h; omega) | (simp only [List.length_cons, List.length_nil, List.length_append, List.length_map, List.length_set, List.length_replicate]; omega) | (intro h; simp [h]; done) | exact True.intro | exact ⟨hbg _ hm1, fun x hx => hbg _ (hm2 x hx)⟩ | exact hbg _ (hxm (by omega)) | (have h8 := hcm (by omega); constructor <;> omega) | (constructor <;> omega) | (intro _; constructor <;> omega) | (simp only [List.length_cons, List.length_nil, List.length_map, List.length_take, List.length_drop]; omega) | (intro _; rw [List.length_drop, List.length_take]; exact hbg _ (by omega)) | exact ⟨hbg _ hm1, fun x hx => hbg _ (hm2 x hx), hbg _ (hxl (by omega))⟩ | exact ⟨hbg _ (by omega), fun x hx => hbg _ (hcs x hx), hbg _ (hxl (by omega))⟩ | exact ⟨by omega, fun x hx => hbg _ (hcs x hx), hxl (by omega)⟩ | exact ⟨by omega, fun x hx => hbg _ (hcs x hx), by rw [List.length_map, List.length_take]; omega⟩ | exact (fun h => Cn.rcore_f1 h) | exact (fun h => Cn.rcore_f2 h) | (refine ⟨by omega, fun x hx => hbg _ (hcs x hx), ?_⟩; rw [List.length_map, List.length_take]; omega)
             ·
              try dsimp only
              (have h8 := Cn.next_len cs (p.getD k (0, [])); exact ⟨by omega, Cn.run_next (by omega) hrun (hki (by omega)).1 (hki (by omega)).2 hok9, by omega, fun x hx => by rcases Cn.next_mem hx with h | h; exact hcs x h; rw [h]; exact hxl (by omega)⟩)
             ·
              show p.length - (k + 1) < p.length - k
              omega
           ·
            have h108 : (p.getD k (0, [])).1 = 3 := by have h8 := hki (by omega); omega
            refine Sq hcx [] [15] [108, 14] [614] [(cs.length ≤ maxLen ∧ (∀ x ∈ cs, x.length ≤ maxLen) ∧ ((p.getD k (0, [])).2).length ≤ maxLen)] ?_ (Zs (Sz hcx [] [85] [] [] (Zj (p := ((Cn.idxF (fun y => Cn.alikeB y ((p.getD k (0, [])).2)) cs) < 0)) (fun h11 => ?_) fun h11 => ?_)))
            ·
             refine ap ?_ az
             first | omega | exact id | exact vcNot | exact vcG | exact vcH | (intro _; omega) | exact (fun _ h => h) | (intro h; simp at h; omega) | (simp only [List.length_cons, List.length_nil, List.length_append, List.length_map, List.length_set, List.length_replicate]; omega) | (intro h; simp [h]; done) | exact True.intro | exact ⟨hbg _ hm1, fun x hx => hbg _ (hm2 x hx)⟩ | exact hbg _ (hxm (by omega)) | (have h8 := hcm (by omega); constructor <;> omega) | (constructor <;> omega) | (intro _; constructor <;> omega) | (simp only [List.length_cons, List.length_nil, List.length_map, List.length_take, List.length_drop]; omega) | (intro _; rw [List.length_drop, List.length_take]; exact hbg _ (by omega)) | exact ⟨hbg _ hm1, fun x hx => hbg _ (hm2 x hx), hbg _ (hxl (by omega))⟩ | exact ⟨hbg _ (by omega), fun x hx => hbg _ (hcs x hx), hbg _ (hxl (by omega))⟩ | exact ⟨by omega, fun x hx => hbg _ (hcs x hx), hxl (by omega)⟩ | exact ⟨by omega, fun x hx => hbg _ (hcs x hx), by rw [List.length_map, List.length_take]; omega⟩ | exact (fun h => Cn.rcore_f1 h) | exact (fun h => Cn.rcore_f2 h) | (refine ⟨by omega, fun x hx => hbg _ (hcs x hx), ?_⟩; rw [List.length_map, List.length_take]; omega)
            ·
             have hki2 := hki (by omega)
             have hok9 : Cn.okC L cs (p.getD k (0, [])) = false := by rw [Cn.ok_3 h108]; exact decide_eq_false (by omega)
             have hr := (Cn.chk_e4 hc0 hf0 hco).trans (congrArg (Cn.endC core) (Cn.run_stop (by omega) hrun hki2.1 hki2.2 hok9))
             have hr9 : Cn.endC core none = 250 := rfl
             exact Sz hcx [] [6] [85, 15, 2, 3, 12, 72, 73, 74] [701] (Zr (Fr (Fk (Fk (Fr (Fr (Fk (Fr (Rv hcx (congrArg AV.int (show 250 = (Cn.chkC N L p core) from (by first | exact hr.symm | (rw [hr, hr9]; done) | done))) [] rfl)))))))))
            ·
             have hix := h11
             have hlt := Cn.idx_lt (p := fun y => Cn.alikeB y (p.getD k (0, [])).2) (l := cs) (by omega)
             have hok9 : Cn.okC L cs (p.getD k (0, [])) = true := by rw [Cn.ok_3 h108]; exact decide_eq_true (by omega)
             refine Zk (Ft (Zn [(701, .frz)] [85, 15, 2, 3, 12, 72, 73, 74] (Td hcx hmx [0, 0, 3, 7, 0, 0, 32, 112, 255, 511] [(1008, .to 294)] [12] [85, 15] [] [((0 : Int) ≤ (Cn.idxF (fun y => Cn.alikeB y ((p.getD k (0, [])).2)) cs) ∧ (Cn.idxF (fun y => Cn.alikeB y ((p.getD k (0, [])).2)) cs) ≤ (cs.length : Int)), (((cs.take ((Cn.idxF (fun y => Cn.alikeB y ((p.getD k (0, [])).2)) cs).toNat)).drop 0).length * 24 ≤ 140737488355328), Fit ((Cn.idxF (fun y => Cn.alikeB y ((p.getD k (0, [])).2)) cs) + 1), ((0 : Int) ≤ ((Cn.idxF (fun y => Cn.alikeB y ((p.getD k (0, [])).2)) cs) + 1) ∧ ((Cn.idxF (fun y => Cn.alikeB y ((p.getD k (0, [])).2)) cs) + 1) ≤ (cs.length : Int)), ((((cs.take ((Cn.idxF (fun y => Cn.alikeB y ((p.getD k (0, [])).2)) cs).toNat)).drop 0).length + ((cs.take cs.length).drop (((Cn.idxF (fun y => Cn.alikeB y ((p.getD k (0, [])).2)) cs) + 1).toNat)).length) * 24 ≤ 140737488355328)] ?_ (Fb (Fb (Ft (Tq hcx [] [74] [] [] [Fit ((k : Int) + 1)] ?_ (Fn [(294, .to 701)] [2, 3, 12, 72, 73, 74] (Lr (k + 1, (Cn.nextC cs (p.getD k (0, [])))) ?_ ?_ (Ex 74 (congrArg AV.int (show ((k : Int) + 1) = ((k + 1) : Int) from (by first | rfl | omega | (simp; done)))) Eb) (Hx 701 (congrArg (fun x => AObj.row 23 (.intss x)) (show (((cs.take ((Cn.idxF (fun y => Cn.alikeB y ((p.getD k (0, [])).2)) cs).toNat)).drop 0) ++ ((cs.take cs.length).drop (((Cn.idxF (fun y => Cn.alikeB y ((p.getD k (0, [])).2)) cs) + 1).toNat))) = (Cn.nextC cs (p.getD k (0, []))) from (by first | exact Cn.next_1 (by omega) | exact Cn.drop_ref h108 (by omega)))) Hb))))))))))
             ·
              refine ap ?_ (ap ?_ (ap ?_ (ap ?_ (ap ?_ az)))) <;>
               first | omega | exact id | exact vcNot | exact vcG | exact vcH | (intro _; omega) | exact (fun _ h => h) | (intro h; simp at h; omega) | (simp only [List.length_cons, List.length_nil, List.length_append, List.length_map, List.length_set, List.length_replicate]; omega) | (intro h; simp [h]; done) | exact True.intro | exact ⟨hbg _ hm1, fun x hx => hbg _ (hm2 x hx)⟩ | exact hbg _ (hxm (by omega)) | (have h8 := hcm (by omega); constructor <;> omega) | (constructor <;> omega) | (intro _; constructor <;> omega) | (simp only [List.length_cons, List.length_nil, List.length_map, List.length_take, List.length_drop]; omega) | (intro _; rw [List.length_drop, List.length_take]; exact hbg _ (by omega)) | exact ⟨hbg _ hm1, fun x hx => hbg _ (hm2 x hx), hbg _ (hxl (by omega))⟩ | exact ⟨hbg _ (by omega), fun x hx => hbg _ (hcs x hx), hbg _ (hxl (by omega))⟩ | exact ⟨by omega, fun x hx => hbg _ (hcs x hx), hxl (by omega)⟩ | exact ⟨by omega, fun x hx => hbg _ (hcs x hx), by rw [List.length_map, List.length_take]; omega⟩ | exact (fun h => Cn.rcore_f1 h) | exact (fun h => Cn.rcore_f2 h) | (refine ⟨by omega, fun x hx => hbg _ (hcs x hx), ?_⟩; rw [List.length_map, List.length_take]; omega)
             ·
              refine ap ?_ az
              first | omega | exact id | exact vcNot | exact vcG | exact vcH | (intro _; omega) | exact (fun _ h => h) | (intro h; simp at h; omega) | (simp only [List.length_cons, List.length_nil, List.length_append, List.length_map, List.length_set, List.length_replicate]; omega) | (intro h; simp [h]; done) | exact True.intro | exact ⟨hbg _ hm1, fun x hx => hbg _ (hm2 x hx)⟩ | exact hbg _ (hxm (by omega)) | (have h8 := hcm (by omega); constructor <;> omega) | (constructor <;> omega) | (intro _; constructor <;> omega) | (simp only [List.length_cons, List.length_nil, List.length_map, List.length_take, List.length_drop]; omega) | (intro _; rw [List.length_drop, List.length_take]; exact hbg _ (by omega)) | exact ⟨hbg _ hm1, fun x hx => hbg _ (hm2 x hx), hbg _ (hxl (by omega))⟩ | exact ⟨hbg _ (by omega), fun x hx => hbg _ (hcs x hx), hbg _ (hxl (by omega))⟩ | exact ⟨by omega, fun x hx => hbg _ (hcs x hx), hxl (by omega)⟩ | exact ⟨by omega, fun x hx => hbg _ (hcs x hx), by rw [List.length_map, List.length_take]; omega⟩ | exact (fun h => Cn.rcore_f1 h) | exact (fun h => Cn.rcore_f2 h) | (refine ⟨by omega, fun x hx => hbg _ (hcs x hx), ?_⟩; rw [List.length_map, List.length_take]; omega)
             ·
              try dsimp only
              (have h8 := Cn.next_len cs (p.getD k (0, [])); exact ⟨by omega, Cn.run_next (by omega) hrun (hki (by omega)).1 (hki (by omega)).2 hok9, by omega, fun x hx => by rcases Cn.next_mem hx with h | h; exact hcs x h; rw [h]; exact hxl (by omega)⟩)
             ·
              show p.length - (k + 1) < p.length - k
              omega
         ·
          rw [show k = p.length by omega, List.take_length] at hrun
          refine Ze (Fe (Fe (Fs (Ft (Sz hcx [] [16] [75, 3, 72, 73, 74] [] (Zs (Sz hcx [] [121, 122, 123] [2] [] (Zb (Zw 16 702 3 (.ints []) (Zn [(701, .to 701), (702, .to 702)] [12, 16, 121, 122, 123] (Lp (X := Nat) (fun x0 => x0 ≤ core.length) (fun x0 => ([(12, .row 701), (16, .row 702), (121, .ints core), (122, .int (core.length : Int)), (123, .int (x0 : Int))], [(701, .row 23 (.intss cs)), (702, .row 3 (.ints ((core.take x0).map fun x => -x)))])) (fun x0 => core.length - x0) (0) ?_ (Ex 123 (congrArg AV.int (show 0 = (0 : Int) from (by first | rfl | omega | (simp; done)))) Eb) Hb fun m hI => ?_)))))))))))
          ·
           show 0 ≤ core.length
           omega
          ·
           replace hI : m ≤ core.length := hI
           have hcm := fun (h : m < core.length) => hcb m h
           refine Sz hcx [] [124] [] [] (Zs (Zj (p := ((m : Int) < (core.length : Int))) (fun h12 => ?_) fun h12 => ?_))
           ·
            refine Zk (Ft (Zs (Zb (Sq hcx [] [18] [124] [] [((0 : Int) ≤ (m : Int) ∧ (m : Int) < (core.length : Int))] ?_ (Tq hcx [(1004, .to 702)] [16] [18] [702] [Fit (-(core.getD m 0)), ((((core.take m).map fun x => -x).length + [(-(core.getD m 0))].length) * 8 ≤ 140737488355328)] ?_ (Fb (Ft (Tq hcx [] [123] [] [] [Fit ((m : Int) + 1)] ?_ (Fn [(701, .to 701), (702, .to 702)] [12, 16, 121, 122, 123] (Lr (m + 1) ?_ ?_ (Ex 123 (congrArg AV.int (show ((m : Int) + 1) = ((m + 1) : Int) from (by first | rfl | omega | (simp; done)))) Eb) (Hx 702 (congrArg (fun x => AObj.row 3 (.ints x)) (show (((core.take m).map fun x => -x) ++ [(-(core.getD m 0))]) = ((core.take (m + 1)).map fun x => -x) from (by exact Cn.core_next (by omega)))) Hb)))))))))))
            ·
             refine ap ?_ az
             first | omega | exact id | exact vcNot | exact vcG | exact vcH | (intro _; omega) | exact (fun _ h => h) | (intro h; simp at h; omega) | (simp only [List.length_cons, List.length_nil, List.length_append, List.length_map, List.length_set, List.length_replicate]; omega) | (intro h; simp [h]; done) | exact True.intro | exact ⟨hbg _ hm1, fun x hx => hbg _ (hm2 x hx)⟩ | exact hbg _ (hxm (by omega)) | (have h8 := hcm (by omega); constructor <;> omega) | (constructor <;> omega) | (intro _; constructor <;> omega) | (simp only [List.length_cons, List.length_nil, List.length_map, List.length_take, List.length_drop]; omega) | (intro _; rw [List.length_drop, List.length_take]; exact hbg _ (by omega)) | exact ⟨hbg _ hm1, fun x hx => hbg _ (hm2 x hx), hbg _ (hxl (by omega))⟩ | exact ⟨hbg _ (by omega), fun x hx => hbg _ (hcs x hx), hbg _ (hxl (by omega))⟩ | exact ⟨by omega, fun x hx => hbg _ (hcs x hx), hxl (by omega)⟩ | exact ⟨by omega, fun x hx => hbg _ (hcs x hx), by rw [List.length_map, List.length_take]; omega⟩ | exact (fun h => Cn.rcore_f1 h) | exact (fun h => Cn.rcore_f2 h) | (refine ⟨by omega, fun x hx => hbg _ (hcs x hx), ?_⟩; rw [List.length_map, List.length_take]; omega)
            ·
             refine ap ?_ (ap ?_ az) <;>
              first | omega | exact id | exact vcNot | exact vcG | exact vcH | (intro _; omega) | exact (fun _ h => h) | (intro h; simp at h; omega) | (simp only [List.length_cons, List.length_nil, List.length_append, List.length_map, List.length_set, List.length_replicate]; omega) | (intro h; simp [h]; done) | exact True.intro | exact ⟨hbg _ hm1, fun x hx => hbg _ (hm2 x hx)⟩ | exact hbg _ (hxm (by omega)) | (have h8 := hcm (by omega); constructor <;> omega) | (constructor <;> omega) | (intro _; constructor <;> omega) | (simp only [List.length_cons, List.length_nil, List.length_map, List.length_take, List.length_drop]; omega) | (intro _; rw [List.length_drop, List.length_take]; exact hbg _ (by omega)) | exact ⟨hbg _ hm1, fun x hx => hbg _ (hm2 x hx), hbg _ (hxl (by omega))⟩ | exact ⟨hbg _ (by omega), fun x hx => hbg _ (hcs x hx), hbg _ (hxl (by omega))⟩ | exact ⟨by omega, fun x hx => hbg _ (hcs x hx), hxl (by omega)⟩ | exact ⟨by omega, fun x hx => hbg _ (hcs x hx), by rw [List.length_map, List.length_take]; omega⟩ | exact (fun h => Cn.rcore_f1 h) | exact (fun h => Cn.rcore_f2 h) | (refine ⟨by omega, fun x hx => hbg _ (hcs x hx), ?_⟩; rw [List.length_map, List.length_take]; omega)
            ·
             refine ap ?_ az
             first | omega | exact id | exact vcNot | exact vcG | exact vcH | (intro _; omega) | exact (fun _ h => h) | (intro h; simp at h; omega) | (simp only [List.length_cons, List.length_nil, List.length_append, List.length_map, List.length_set, List.length_replicate]; omega) | (intro h; simp [h]; done) | exact True.intro | exact ⟨hbg _ hm1, fun x hx => hbg _ (hm2 x hx)⟩ | exact hbg _ (hxm (by omega)) | (have h8 := hcm (by omega); constructor <;> omega) | (constructor <;> omega) | (intro _; constructor <;> omega) | (simp only [List.length_cons, List.length_nil, List.length_map, List.length_take, List.length_drop]; omega) | (intro _; rw [List.length_drop, List.length_take]; exact hbg _ (by omega)) | exact ⟨hbg _ hm1, fun x hx => hbg _ (hm2 x hx), hbg _ (hxl (by omega))⟩ | exact ⟨hbg _ (by omega), fun x hx => hbg _ (hcs x hx), hbg _ (hxl (by omega))⟩ | exact ⟨by omega, fun x hx => hbg _ (hcs x hx), hxl (by omega)⟩ | exact ⟨by omega, fun x hx => hbg _ (hcs x hx), by rw [List.length_map, List.length_take]; omega⟩ | exact (fun h => Cn.rcore_f1 h) | exact (fun h => Cn.rcore_f2 h) | (refine ⟨by omega, fun x hx => hbg _ (hcs x hx), ?_⟩; rw [List.length_map, List.length_take]; omega)
            ·
             show (m + 1) ≤ core.length
             omega
            ·
             show core.length - (m + 1) < core.length - m
             omega
           ·
            refine Ze (Fe (Fe (Fs (Ft (Zs (Sq hcx [] [136] [124, 12, 16, 121, 122, 123] [701, 702] [(cs.length ≤ 1000000 ∧ (∀ x ∈ cs, x.length ≤ maxLen) ∧ ((core.take m).map fun x => -x).length ≤ 1000000)] ?_ (Zi (b := !(Cn.flwV cs ((core.take m).map fun x => -x))) (fun h13 => ?_) fun h13 => ?_)))))))
            ·
             refine ap ?_ az
             first | omega | exact id | exact vcNot | exact vcG | exact vcH | (intro _; omega) | exact (fun _ h => h) | (intro h; simp at h; omega) | (simp only [List.length_cons, List.length_nil, List.length_append, List.length_map, List.length_set, List.length_replicate]; omega) | (intro h; simp [h]; done) | exact True.intro | exact ⟨hbg _ hm1, fun x hx => hbg _ (hm2 x hx)⟩ | exact hbg _ (hxm (by omega)) | (have h8 := hcm (by omega); constructor <;> omega) | (constructor <;> omega) | (intro _; constructor <;> omega) | (simp only [List.length_cons, List.length_nil, List.length_map, List.length_take, List.length_drop]; omega) | (intro _; rw [List.length_drop, List.length_take]; exact hbg _ (by omega)) | exact ⟨hbg _ hm1, fun x hx => hbg _ (hm2 x hx), hbg _ (hxl (by omega))⟩ | exact ⟨hbg _ (by omega), fun x hx => hbg _ (hcs x hx), hbg _ (hxl (by omega))⟩ | exact ⟨by omega, fun x hx => hbg _ (hcs x hx), hxl (by omega)⟩ | exact ⟨by omega, fun x hx => hbg _ (hcs x hx), by rw [List.length_map, List.length_take]; omega⟩ | exact (fun h => Cn.rcore_f1 h) | exact (fun h => Cn.rcore_f2 h) | (refine ⟨by omega, fun x hx => hbg _ (hcs x hx), ?_⟩; rw [List.length_map, List.length_take]; omega)
            ·
             have hq := Cn.ntT h13
             rw [show m = core.length by omega, List.take_length] at hq
             have hr := (Cn.chk_e4 hc0 hf0 hco).trans (congrArg (Cn.endC core) hrun)
             have hr9 : Cn.endC core (some cs) = 250 := by unfold Cn.endC; exact if_neg (by rw [hq]; simp)
             exact Sz hcx [] [6] [136] [] (Zr (Fr (Rv hcx (congrArg AV.int (show 250 = (Cn.chkC N L p core) from (by first | exact hr.symm | (rw [hr, hr9]; done) | done))) [] rfl)))
            ·
             have hq := Cn.ntF h13
             rw [show m = core.length by omega, List.take_length] at hq
             have hr := (Cn.chk_e4 hc0 hf0 hco).trans (congrArg (Cn.endC core) hrun)
             have hr9 : Cn.endC core (some cs) = 0 := by unfold Cn.endC; exact if_pos hq
             exact Zk (Ft (Sz hcx [] [6] [136] [] (Zr (Rv hcx (congrArg AV.int (show 0 = (Cn.chkC N L p core) from (by first | exact hr.symm | (rw [hr, hr9]; done) | done))) [] rfl))))
 ·
  cases hσ
end Go.Proofs.YtbpbndlgfiammaaGreatDoor.En
namespace Go.Proofs.YtbpbndlgfiammaaGreatDoor.En
open Go Go.RowKit
def tyL24ProofChecks : List (Nat × TD) := [(3, ⟨1, false, [.int .i64 0], [], none, 8, false, 1, 1⟩),
  (22, ⟨1, false, [.slice none 0 0], [], some 23, 24, false, 0, 0⟩),
  (23, ⟨1, false, [.slice none 0 0], [], some 3, 24, false, 0, 3⟩),
  (28, ⟨2, true, [.int .i64 0, .slice none 0 0], [(0, 3), (1, 22)], none, 32, false, 0, 6⟩),
  (29, ⟨1, false, [.slice none 0 0], [], some 43, 24, false, 0, 0⟩),
  (31, ⟨1, false, [.int .i64 0], [], none, 8, false, 1, 1⟩),
  (43, ⟨2, true, [.int .i64 0, .slice none 0 0], [(0, 3), (1, 23)], none, 32, false, 0, 7⟩)]
theorem tyL24ProofChecks_ok : AllTy Tryz.prog tyL24ProofChecks := ⟨⟨by kernel_rfl, by kernel_rfl, by kernel_rfl⟩, ⟨by kernel_rfl, by kernel_rfl, by kernel_rfl⟩, ⟨by kernel_rfl, by kernel_rfl, by kernel_rfl⟩, ⟨by kernel_rfl, by kernel_rfl, by kernel_rfl⟩, ⟨by kernel_rfl, by kernel_rfl, by kernel_rfl⟩, ⟨by kernel_rfl, by kernel_rfl, by kernel_rfl⟩, ⟨by kernel_rfl, by kernel_rfl, by kernel_rfl⟩, trivial⟩
def cx_lProofChecks : Cx := ⟨tyL24ProofChecks, [(13, (coeF [.ld (.intss []), .id] rFewC_σ)), (16, (coeF [.ld (.lines []), .id] rFewL_σ)), (17, (coeF [.agg [.id, .ld (.intss [])], .ld (.lines []), .ld (.ints [])] pCheck_σ)), (12, live24_σ), (18, (coeF [.agg [.id, .ld (.intss [])], .ld (.lines []), .ld (.ints [])] rCheckQ_σ))], true⟩
theorem cx_lProofChecks_ok : CxOk Tryz.prog cx_lProofChecks := cx_ok tyL24ProofChecks_ok ⟨(rFewC_sound.coe [.ld (.intss []), .id] rfl), (rFewL_sound.coe [.ld (.lines []), .id] rfl), (pCheck_sound.coe [.agg [.id, .ld (.intss [])], .ld (.lines []), .ld (.ints [])] rfl), live24_sound, (rCheckQ_sound.coe [.agg [.id, .ld (.intss [])], .ld (.lines []), .ld (.ints [])] rfl), trivial⟩
def lProofChecks_σ : CtF
  | [.agg [.im (.val (.int .i64 N)), .im (.ls (.intss L))], .im (.ls (.lines p)), .im (.ls (.ints core))], [] => some ((L.length ≤ maxLen ∧ (∀ x ∈ L, x.length ≤ 17592186043904)) ∧ (p.length ≤ maxLen ∧ (∀ x ∈ p, x.2.length ≤ 17592186043904)) ∧ core.length ≤ maxLen, .bool true, [])
  | _, _ => none
theorem lProofChecks_sound : Sound Tryz.prog 4 lProofChecks_σ := by
 refine Sw (cx := cx_lProofChecks) Tryz.f4 Tryz.func4 ?_
 intro wW wO wβ G0 args os p r outs hσ hp
 have hcx := cx_lProofChecks_ok
 have hmx : Tryz.prog.follows .mixedOrders = true := by kernel_rfl
 unfold lProofChecks_σ at hσ
 split at hσ
 ·
  rename_i N L p core
  cases hσ
  refine ⟨by kernel_rfl, ?_⟩
  obtain ⟨⟨hL, hLm⟩, ⟨hP, hPm⟩, hC⟩ := hp
  have hL9 := hL
  have hP9 := hP
  have hC9 := hC
  unfold maxLen at hL9 hP9 hC9
  refine Sz hcx [(1000, .frz)] [3] [0] [] (Zs (Sq hcx [] [8] [] [] [(True)] ?_ (Zi (b := !true) (fun h0 => ?_) fun h0 => ?_)))
  ·
   refine ap ?_ az
   first | omega | exact True.intro | exact id | exact (fun _ h => h) | exact ⟨hL, hLm, by decide, by decide⟩ | exact (fun _ => ⟨hL, hLm, by decide, by decide⟩) | exact (fun _ => ⟨hP, hPm, by decide, by decide⟩) | exact ⟨hL, fun x hx => by have := a3 x hx; omega, hP, fun x hx => by have := b3 x hx; omega, by omega⟩ | exact ⟨by omega, fun x hx => by have := a3 x hx; omega, by omega, fun x hx => by have := b3 x hx; omega, by omega⟩ | (constructor <;> omega) | (intro _; constructor <;> omega) | done
  ·
   cases h0
  ·
   replace h0 := (notB_f h0)
   refine Zk (Ft (Zs (Sq hcx [] [22] [8] [] [(L.length ≤ maxLen ∧ (∀ x ∈ L, x.length ≤ 17592186043904) ∧ 0 ≤ (60 : Int) ∧ (60 : Int) ≤ 1000), ((!(!(Cn.fewC L (60 : Int)))) = true → ((!(!(Cn.fewC L (60 : Int)))) = true)), ((!(!(Cn.fewC L (60 : Int)))) = true → (p.length ≤ maxLen ∧ (∀ x ∈ p, x.2.length ≤ 17592186043904) ∧ 0 ≤ (60 : Int) ∧ (60 : Int) ≤ 1000)), ((!(!(Cn.fewC L (60 : Int)))) = true → ((!(!(Cn.fewC L (60 : Int)))) = true)), ((!(Cn.fewC L (60 : Int))) = false → (!(!(Cn.fewC L (60 : Int)))) = true), ((!((!(Cn.fewC L (60 : Int))) || (!(Cn.fewL p (60 : Int))))) = true → ((!((!(Cn.fewC L (60 : Int))) || (!(Cn.fewL p (60 : Int))))) = true)), ((!((!(Cn.fewC L (60 : Int))) || (!(Cn.fewL p (60 : Int))))) = true → ((!((!(Cn.fewC L (60 : Int))) || (!(Cn.fewL p (60 : Int))))) = true)), (((!(Cn.fewC L (60 : Int))) || (!(Cn.fewL p (60 : Int)))) = false → (!((!(Cn.fewC L (60 : Int))) || (!(Cn.fewL p (60 : Int))))) = true)] ?_ (Zi (b := ((!(Cn.fewC L (60 : Int))) || (!(Cn.fewL p (60 : Int)))) || (decide ((core.length : Int) > 60))) (fun h1 => ?_) fun h1 => ?_))))
   ·
    refine ap ?_ (ap ?_ (ap ?_ (ap ?_ (ap (by exact vcNot) (ap ?_ (ap ?_ (ap (by exact vcNot) az))))))) <;>
     first | omega | exact True.intro | exact id | exact (fun _ h => h) | exact ⟨hL, hLm, by decide, by decide⟩ | exact (fun _ => ⟨hL, hLm, by decide, by decide⟩) | exact (fun _ => ⟨hP, hPm, by decide, by decide⟩) | exact ⟨hL, fun x hx => by have := a3 x hx; omega, hP, fun x hx => by have := b3 x hx; omega, by omega⟩ | exact ⟨by omega, fun x hx => by have := a3 x hx; omega, by omega, fun x hx => by have := b3 x hx; omega, by omega⟩ | (constructor <;> omega) | (intro _; constructor <;> omega) | done
   ·
    skip
    exact Sz hcx [] [6] [22, 3, 1, 2] [] (Zr (Fr (Ru hcx [])))
   ·
    obtain ⟨hf1, hf2, hcl⟩ := Cn.c_checks h1
    have e1 := Cn.fewC_iff hf1
    have e2 := Cn.fewL_iff hf2
    obtain ⟨a1, a2, a3⟩ := e1
    obtain ⟨b1, b2, b3⟩ := e2
    refine Zk (Ft (Sd hcx hmx [0, 0, 0, 7, 0, 0, 0, 127, 255, 511] [] [6] [22, 3, 1, 2] [] [(L.length ≤ maxLen ∧ (∀ x ∈ L, x.length ≤ 1000000000000) ∧ p.length ≤ maxLen ∧ (∀ x ∈ p, x.2.length ≤ 1000000000000) ∧ core.length ≤ 1000000000000), (L.length ≤ 1000000 ∧ (∀ x ∈ L, x.length ≤ 1000000) ∧ p.length ≤ 1000000 ∧ (∀ x ∈ p, x.2.length ≤ 1000000) ∧ core.length ≤ 1000000)] ?_ (Zr (Rv hcx (congrArg AV.bool (show ((Cn.chkC N L p core) == (Cn.chkC N L p core)) = true from (by first | rfl | (simp; done) | done))) [] rfl))))
    ·
     refine ap ?_ (ap ?_ az) <;>
      first | omega | exact True.intro | exact id | exact (fun _ h => h) | exact ⟨hL, hLm, by decide, by decide⟩ | exact (fun _ => ⟨hL, hLm, by decide, by decide⟩) | exact (fun _ => ⟨hP, hPm, by decide, by decide⟩) | exact ⟨hL, fun x hx => by have := a3 x hx; omega, hP, fun x hx => by have := b3 x hx; omega, by omega⟩ | exact ⟨by omega, fun x hx => by have := a3 x hx; omega, by omega, fun x hx => by have := b3 x hx; omega, by omega⟩ | (constructor <;> omega) | (intro _; constructor <;> omega) | done
 ·
  cases hσ
end Go.Proofs.YtbpbndlgfiammaaGreatDoor.En
namespace Go.Proofs.YtbpbndlgfiammaaGreatDoor
open Go.ChangeShapes Go.WideShapes Go.ChangeAt Go.RowKit Go.Joins Go.Deep
theorem own : ownKnob Tryz.prog.godebug = none := by kernel_rfl
theorem laidOut : laidOutB Tryz.prog = true := by kernel_rfl
section
variable {H : Type} {enc : TypeId × Value → H} {P : Program} {w : World} {base : Nat} {spare : Nat → Bool}
theorem cells_rd {α : Type} {encV : α → Value} {a : Addr} {zs : List α} {len : Nat} {z : α} (hl : len ≤ zs.length) (hc : ∀ i, i < zs.length → w.cell? (a.add i) = some (encV (zs.getD i z))) : Rd encV (· < w.heap.size) w (some a) (zs.take len) := fun hn => by
  rw [List.length_take] at hn
  have h0 := hc 0 (by omega)
  obtain ⟨b, off, spot⟩ := a
  have hs : spot = none := by simpa [Addr.add] using World.cell?_spot h0
  subst hs
  refine ⟨b, off, rfl, ?_, fun j hj => ?_⟩
  · exact World.block_lt_of_cell? w _ (by simpa [Addr.add] using h0)
  · rw [List.length_take] at hj
    have := hc j (by omega)
    rw [add_mk] at this
    rw [this, List.getElem_take, List.getD_eq_getElem?_getD, List.getElem?_eq_getElem (by omega)]
    rfl
end
end Go.Proofs.YtbpbndlgfiammaaGreatDoor
namespace Go.Proofs.YtbpbndlgfiammaaGreatDoor.En
open Go Go.ChangeShapes Go.WideShapes Go.ChangeAt Go.RowKit Go.Joins Go.Deep
abbrev gW (W : World) : Gh := g0 W (· < W.heap.size)
section
variable {H : Type} {enc : TypeId × Value → H} {P : Program} {w : World} {b0 : Nat} {v : Value} {d : DataW H} {p : List MemPlace} {r : Reach}
theorem trod_intsE {t e : TypeId} {fuel : Nat} {cs : List Value} {base : Nat} {x : DataW H × List MemPlace} (ht : P.underlying t = some (.slice e)) (he : P.underlying e = some (.int .i64)) (hc : P.cellsOf e = 1)
    (h : DataW.trod enc P w base (fun _ => true) true fuel t cs = some x) : ∃ v xs, cs = [v] ∧ Den (gW w) (.ints xs) v ∧ xs.length ≤ maxLen := by
  rcases open_ints ht he hc h with ⟨rfl, _⟩ | ⟨a, len, cap, zs, rfl, _, hl, hm, hz, _, hcell, hwz⟩
  · exact ⟨_, [], rfl, by simp only [Den]; exact .nil _ none 0 rfl, by simp⟩
  · simp only [if_true] at hz
    have hlen : (zs.take len).length = len := by rw [List.length_take, Nat.min_eq_left (by omega)]
    refine ⟨_, zs.take len, rfl, ?_, by omega⟩
    have := den_ints (W := w) (A := some a) (xs := zs.take len) (c := cap) (cells_rd (by omega) hcell) (by omega) (by omega)
    rwa [hlen] at this
theorem cell_spot {a : Addr} {u : Value} (h : w.cell? a = some u) : ∃ b off, a = ⟨b, off, none⟩ ∧ b < w.heap.size := by
  have hb := World.block_lt_of_cell? w a h
  obtain ⟨b, off, s⟩ := a
  cases s with
  | none => exact ⟨b, off, rfl, hb⟩
  | some s => simp [World.cell?] at h; split at h <;> simp at h
theorem open_intsE {t e : TypeId} (ht : P.underlying t = some (.slice e)) (he : P.underlying e = some (.int .i64)) (hc : P.cellsOf e = 1) (hv : Value.okWide P w r b0 t v) (h : DataW.Trod enc P w 0 (fun _ => true) true t v d p) :
    ∃ xs, Den (gW w) (.ints xs) v ∧ xs.length ≤ maxLen := by
  obtain ⟨fuel, hf⟩ := h
  obtain ⟨u, xs, e1, h1, h2⟩ := trod_intsE ht he hc hf
  obtain ⟨a, l, c, rfl⟩ := okWide_slice ht hv
  simp [Value.cells] at e1
  subst e1
  exact ⟨xs, h1, h2⟩
end
end Go.Proofs.YtbpbndlgfiammaaGreatDoor.En
namespace Go.Proofs.YtbpbndlgfiammaaGreatDoor.En
open Go Go.ChangeShapes Go.WideShapes Go.ChangeAt Go.RowKit Go.Joins Go.Deep
section
variable {H : Type} {enc : TypeId × Value → H} {P : Program} {w : World} {b0 : Nat} {v : Value} {d : DataW H} {p : List MemPlace} {r : Reach}
end
end Go.Proofs.YtbpbndlgfiammaaGreatDoor.En
namespace Go.Proofs.YtbpbndlgfiammaaGreatDoor.En
open Go Go.ChangeShapes Go.WideShapes Go.ChangeAt Go.RowKit Go.Joins Go.Deep
theorem weights_one {H : Type} {P : Program} {t : TypeId} {ts : List TypeId} {d : DataW H} {ds : List (DataW H)} {q : Nat → Bool} (h : (DataW.weightsEach P (t :: ts) (d :: ds)).all q = true) : (DataW.weights P t d).all q = true ∧ (DataW.weightsEach P ts ds).all q = true := by
  rw [DataW.weightsEach, List.all_append, Bool.and_eq_true] at h
  exact h
section
variable {H : Type} {enc : TypeId × Value → H} {P : Program} {w : World} {b0 : Nat} {v : Value} {d : DataW H} {p : List MemPlace} {r : Reach}
theorem weights_mem {e : TypeId} {q : Nat → Bool} : ∀ {ds : List (DataW H)}, (DataW.weightsAll P e ds).all q = true → ∀ d ∈ ds, (DataW.weights P e d).all q = true
  | [], _, d, hd => by cases hd
  | x :: ds, h, d, hd => by
    rw [DataW.weightsAll, List.all_append, Bool.and_eq_true] at h
    rcases List.mem_cons.1 hd with e | e
    · rw [e]; exact h.1
    · exact weights_mem h.2 d e
theorem weights_slice {t e : TypeId} {q : Nat → Bool} {el sp : List (DataW H)} (ht : P.underlying t = some (.slice e)) (h : (DataW.weights P t (.slice el sp)).all q = true) : q ((el.length + sp.length) * P.bytesOf e) = true ∧ ∀ d ∈ el, (DataW.weights P e d).all q = true := by
  rw [DataW.weights, ht] at h
  simp only [List.all_cons, List.all_append, Bool.and_eq_true] at h
  exact ⟨h.1, weights_mem h.2.1⟩
theorem trod_intsZ {t e : TypeId} {fuel : Nat} {cs : List Value} {base : Nat} {x : DataW H × List MemPlace} (ht : P.underlying t = some (.slice e)) (he : P.underlying e = some (.int .i64)) (hc : P.cellsOf e = 1) (hb : P.bytesOf e = 8)
    (h : DataW.trod enc P w base (fun _ => true) true fuel t cs = some x) (hw : (DataW.weights P t x.1).all (· ≤ reachBytes) = true) : ∃ v xs, cs = [v] ∧ Den (gW w) (.ints xs) v ∧ xs.length ≤ 17592186043904 := by
  rcases open_ints ht he hc h with ⟨rfl, _⟩ | ⟨a, len, cap, zs, rfl, _, hl, hm, hz, hx, hcell, hwz⟩
  · exact ⟨_, [], rfl, by simp only [Den]; exact .nil _ none 0 rfl, by simp⟩
  · simp only [if_true] at hz
    have hlen : (zs.take len).length = len := by rw [List.length_take, Nat.min_eq_left (by omega)]
    have hwt := (weights_slice ht (by rw [hx] at hw; exact hw)).1
    rw [hb] at hwt
    have hle : (zs.take len).length * 8 ≤ reachBytes := by
      have := of_decide_eq_true hwt
      simp only [lits, List.length_map] at this
      omega
    have hR : reachBytes = 140737488351232 := rfl
    refine ⟨_, zs.take len, rfl, ?_, by omega⟩
    have := den_ints (W := w) (A := some a) (xs := zs.take len) (c := cap) (cells_rd (by omega) hcell) (by omega) (by omega)
    rwa [hlen] at this
theorem trod_intssZ {t e e2 : TypeId} {fuel : Nat} {cs : List Value} {base : Nat} {x : DataW H × List MemPlace} (ht : P.underlying t = some (.slice e)) (he : P.underlying e = some (.slice e2)) (he2 : P.underlying e2 = some (.int .i64)) (hc : P.cellsOf e = 1) (hc2 : P.cellsOf e2 = 1) (hb : P.bytesOf e2 = 8)
    (h : DataW.trod enc P w base (fun _ => true) true fuel t cs = some x) (hw : (DataW.weights P t x.1).all (· ≤ reachBytes) = true) : ∃ v xss, cs = [v] ∧ Den (gW w) (.intss xss) v ∧ xss.length ≤ maxLen ∧ ∀ l ∈ xss, l.length ≤ 17592186043904 := by
  rcases open_slice1 ht hc h with ⟨rfl, _⟩ | ⟨a, len, cap, m, n, V, D, Pl, rfl, _, hl, hm, hmm, hxd, hcell⟩
  · exact ⟨_, [], rfl, by simp only [Den]; exact .nil _ none 0 rfl, by simp, by simp⟩
  · simp only [if_true] at hmm
    subst hmm
    have hwd := (weights_slice ht (by rw [hxd] at hw; exact hw)).2
    have hx : ∀ i, ∃ xs : List Int, i < len → Den (gW w) (.ints xs) (V i) ∧ xs.length ≤ 17592186043904 := fun i => by
      by_cases hi : i < len
      · obtain ⟨v, xs, e1, h1, h2⟩ := trod_intsZ he he2 hc2 hb (hcell i (by omega)).2 (hwd (D i) (List.mem_map.2 ⟨i, List.mem_range.2 hi, rfl⟩))
        injection e1 with e1
        subst e1
        exact ⟨xs, fun _ => ⟨h1, h2⟩⟩
      · exact ⟨[], fun h => absurd h hi⟩
    obtain ⟨X, hX⟩ := Classical.axiomOfChoice hx
    have hlen : ((List.range len).map X).length = len := by simp
    refine ⟨_, (List.range len).map X, rfl, ?_, by omega, fun l hl => by obtain ⟨i, hi, rfl⟩ := List.mem_map.1 hl; exact (hX i (List.mem_range.1 hi)).2⟩
    simp only [Den]
    by_cases h0 : len = 0
    · subst h0; exact .nil _ _ _ rfl
    · obtain ⟨b, off, hab, hb⟩ := cell_spot (hcell 0 (by omega)).1
      have haa : a = ⟨b, off, none⟩ := by rwa [show a.add 0 = a from rfl] at hab
      subst haa
      have := Rep.ls (W := w) (G := (gW w).G) (.intss ((List.range len).map X)) b off m (fun i _ => V i) (by show ((List.range len).map X).length ≤ _; omega) (by show ((List.range len).map X).length ≤ _; omega) hb (fun i j hi hj => by
        have hi' : i < len := by simpa [LD.len] using hi
        have hj' : j = 0 := by have : j < 1 := hj; omega
        subst hj'
        have h1 := (hcell i (by omega)).1
        rw [add_mk] at h1
        show w.cell? ⟨b, off + i * 1 + 0, none⟩ = _
        rw [Nat.mul_one, Nat.add_zero]; exact h1) (fun i j hi hj => by
        have hi' : i < len := by simpa [LD.len] using hi
        have h1 := (hX i hi').1
        simp only [Den] at h1
        have e1 : ((List.range len).map X).getD i [] = X i := by simp [List.getD, hi']
        show Rep w _ (.ls (.ints (((List.range len).map X).getD i []))) (V i)
        rw [e1]; exact h1)
      have hl2 : LD.len (.intss ((List.range len).map X)) = len := hlen
      rw [hl2] at this
      exact this
end
set_option maxRecDepth 100000 in
theorem open_cnfZ {H : Type} {enc : TypeId × Value → H} {w : World} {r : Reach} {b0 : Nat} {v : Value} {d : DataW H} {p : List MemPlace} (hv : Value.okWide Tryz.prog w r b0 28 v) (h : DataW.Trod enc Tryz.prog w 0 (fun _ => true) true 28 v d p)
    (hw : (DataW.weights Tryz.prog 28 d).all (· ≤ reachBytes) = true) : ∃ N L, Den (gW w) (.agg [.int N, .intss L]) v ∧ (L.length ≤ maxLen ∧ ∀ l ∈ L, l.length ≤ 17592186043904) := by
  obtain ⟨v0, v1, y0, y1, n, rfl, rfl, rfl, h0, h1⟩ := open_agg2 Tryz.underlying28 (by kernel_rfl) (by kernel_rfl) hv h
  rw [DataW.weights, Tryz.underlying28] at hw
  simp only [DataW.weightsEach, List.all_append, Bool.and_eq_true, List.map_cons, List.map_nil] at hw
  obtain ⟨N, e2, _, wN⟩ := DataW.trod_int Tryz.underlying3 h0
  obtain ⟨u1, L, e1, r1, m1⟩ := trod_intssZ Tryz.underlying22 Tryz.underlying23 Tryz.underlying3 (by kernel_rfl) (by kernel_rfl) (by kernel_rfl) h1 hw.2.1
  simp at e1 e2
  subst e1 e2
  refine ⟨N, L, ?_, m1⟩
  rw [Den]
  refine ⟨[_, _], rfl, ?_⟩
  simp only [DenL]
  exact ⟨_, _, rfl, den_val_mk _, _, _, rfl, r1, rfl⟩
end Go.Proofs.YtbpbndlgfiammaaGreatDoor.En
namespace Go.Proofs.YtbpbndlgfiammaaGreatDoor.En
open Go Go.ChangeShapes Go.WideShapes Go.ChangeAt Go.RowKit Go.Joins Go.Deep
set_option maxRecDepth 100000 in
theorem open_linesZ {H : Type} {enc : TypeId × Value → H} {w : World} {r : Reach} {b0 : Nat} {v : Value} {d : DataW H} {p : List MemPlace} (hv : Value.okWide Tryz.prog w r b0 29 v) (h : DataW.Trod enc Tryz.prog w 0 (fun _ => true) true 29 v d p) (hw : (DataW.weights Tryz.prog 29 d).all (· ≤ reachBytes) = true) :
    ∃ u, Den (gW w) (.lines u) v ∧ (u.length ≤ maxLen ∧ ∀ x ∈ u, x.2.length ≤ 17592186043904) := by
  obtain ⟨fuel, hf⟩ := h
  obtain ⟨a0, l0, c0, rfl⟩ := okWide_slice Tryz.underlying29 hv
  rcases open_slice_pairs Tryz.underlying29 Tryz.underlying43 (by kernel_rfl) rfl rfl (by kernel_rfl) (by kernel_rfl) hf with ⟨e1, _⟩ | ⟨a, len, cap, m, n, V0, V1, D0, D1, P0, P1, e1, _, hl, hm, hmm, hxd, hcell⟩
  · simp [Value.cells] at e1
    obtain ⟨rfl, rfl, rfl⟩ := e1
    exact ⟨[], by simp only [Den]; exact .nil _ none 0 rfl, by decide, fun k hk => by cases hk⟩
  · simp only [if_true] at hmm
    have hxd' : d = .slice ((List.range len).map fun i => .agg [D0 i, D1 i]) ((List.range (m - len)).map fun j => .agg [D0 (len + j), D1 (len + j)]) := congrArg Prod.fst hxd
    have hwd := (weights_slice Tryz.underlying29 (by rw [hxd'] at hw; exact hw)).2
    have hwi : ∀ i, i < len → (DataW.weights Tryz.prog 23 (D1 i)).all (· ≤ reachBytes) = true := fun i hi => by
      have h9 := hwd (.agg [D0 i, D1 i]) (List.mem_map.2 ⟨i, List.mem_range.2 hi, rfl⟩)
      rw [DataW.weights, Tryz.underlying43] at h9
      simp only [DataW.weightsEach, List.all_append, Bool.and_eq_true, List.map_cons, List.map_nil] at h9
      exact h9.2.1
    rw [hmm] at hcell
    clear hmm hxd hxd' hw
    simp [Value.cells] at e1
    obtain ⟨ea, el, ec⟩ := e1
    rw [ea, el, ec]
    clear hv hf ea el ec
    have hx : ∀ i, ∃ y : Int × List Int, i < len → V0 i = .int .i64 y.1 ∧ Den (gW w) (.ints y.2) (V1 i) ∧ y.2.length ≤ 17592186043904 := fun i => by
      by_cases hi : i < len
      · obtain ⟨_, _, h0, h1⟩ := hcell i (by omega)
        obtain ⟨N, e2, _, _⟩ := DataW.trod_int Tryz.underlying3 h0
        obtain ⟨u1, L, e3, r1, m1⟩ := trod_intsZ Tryz.underlying23 Tryz.underlying3 (by kernel_rfl) (by kernel_rfl) h1 (hwi i hi)
        simp at e2 e3
        subst e3
        exact ⟨(N, L), fun _ => ⟨e2, r1, m1⟩⟩
      · exact ⟨(0, []), fun h => absurd h hi⟩
    obtain ⟨X, hX⟩ := Classical.axiomOfChoice hx
    have hlen : ((List.range len).map X).length = len := by simp
    have hget : ∀ i, i < len → ((List.range len).map X).getD i (0, []) = X i := fun i hi => by simp [List.getD, hi]
    refine ⟨(List.range len).map X, ?_, by omega, fun x hx => by obtain ⟨i, hi, rfl⟩ := List.mem_map.1 hx; exact (hX i (List.mem_range.1 hi)).2.2⟩
    simp only [Den]
    by_cases h0 : len = 0
    · subst h0; exact .nil _ _ _ rfl
    · obtain ⟨b, off, hab, hb⟩ := cell_spot (hcell 0 (by omega)).1
      have haa : a = ⟨b, off, none⟩ := by rwa [show a.add (0 * 2) = a from rfl] at hab
      subst haa
      have := Rep.ls (W := w) (G := (gW w).G) (.lines ((List.range len).map X)) b off cap (fun i j => if j = 0 then V0 i else V1 i) (by show ((List.range len).map X).length ≤ _; omega) (by show ((List.range len).map X).length ≤ _; omega) hb (fun i j hi hj => by
        have hi' : i < len := by simpa [LD.len] using hi
        have hj' : j < 2 := hj
        obtain ⟨h1, h2, _⟩ := hcell i (by omega)
        rw [add_mk] at h1 h2
        show w.cell? ⟨b, off + i * 2 + j, none⟩ = _
        match j, hj' with
        | 0, _ => exact h1
        | 1, _ => exact h2) (fun i j hi hj => by
        have hi' : i < len := by simpa [LD.len] using hi
        have hj' : j < 2 := hj
        obtain ⟨h1, h2, _⟩ := hX i hi'
        simp only [Den] at h2
        match j, hj' with
        | 0, _ =>
          show Rep w _ (.int (((List.range len).map X).getD i (0, [])).1) (V0 i)
          rw [hget i hi', h1]; exact .val _
        | 1, _ =>
          show Rep w _ (.ls (.ints (((List.range len).map X).getD i (0, [])).2)) (V1 i)
          rw [hget i hi']; exact h2)
      have hl2 : LD.len (.lines ((List.range len).map X)) = len := hlen
      rw [hl2] at this
      exact this
end Go.Proofs.YtbpbndlgfiammaaGreatDoor.En
namespace Go.Proofs.YtbpbndlgfiammaaGreatDoor
open Go.ChangeShapes Go.WideShapes Go.ChangeAt Go.RowKit
abbrev lay : List (String × DataW Unit) := [("math/bits.deBruijn32tab", Rows.laid_math_bits_deBruijn32tab), ("math/bits.deBruijn64tab", Rows.laid_math_bits_deBruijn64tab), ("internal/strconv.uint64pow10", Rows.laid_internal_strconv_uint64pow10), ("unicode/utf8.acceptRanges", Rows.laid_unicode_utf8_acceptRanges), ("strconv.ErrRange", Rows.laid_strconv_ErrRange), ("strconv.ErrSyntax", Rows.laid_strconv_ErrSyntax), ("unicode/utf8.first", Rows.laid_unicode_utf8_first)]
set_option maxRecDepth 100000 in
theorem door_met (os : Os) (args : Array Value) : laidMetH Tryz.prog lay ((World.laidAll Tryz.prog os lay).forCall (fun _ _ => 0) ⟨#[], args, []⟩).memory := by
  rw [MakeChecks.laidMetH_plain _ _ _ (by kernel_rfl)]
  exact laidMet_laidAll args (by kernel_rfl) (by kernel_rfl)
set_option maxRecDepth 100000 in
theorem shaped_all (os : Os) : (World.laidAll Tryz.prog os lay).Shaped Tryz.prog := World.shaped_of_ZipB (by kernel_rfl) (by kernel_rfl)
theorem glb_one {P : Program} {W : World} {n : String} {k : Nat} {cs : Array Value} {xs : List Value} (hg : P.globalNamed n = some k) (hv : W.var? P n = some cs) (hc : cs.toList = xs) :
    k < W.heap.size ∧ (∀ (j : Nat) (x : Value), xs[j]? = some x → W.cell? ⟨k, j, none⟩ = some x) ∧ ∃ t m, W.heap[k]? = some (.cells xs.toArray t m) := by
  have hcs : cs = xs.toArray := by rw [← hc]
  subst hcs
  have h1 := fun j => World.var?_cell hg hv j
  simp only [World.var?, hg, Option.bind_some] at hv
  split at hv
  · rename_i c t m hb
    cases hv
    refine ⟨?_, fun j x hj => ?_, t, m, hb⟩
    · by_cases h : k < W.heap.size
      · exact h
      · rw [Array.getElem?_eq_none (by omega)] at hb; cases hb
    · rw [h1 j]; simpa using hj
  · cases hv
def acc : List (List Int) := [[128, 191], [160, 191], [128, 159], [144, 191], [128, 143], [0, 0], [0, 0], [0, 0], [0, 0], [0, 0], [0, 0], [0, 0], [0, 0], [0, 0], [0, 0], [0, 0]]
theorem laid_acc : (Rows.laid_unicode_utf8_acceptRanges : DataW Unit) = .agg (acc.map fun l => .agg (l.map fun z => .lit (.int .u8 z))) := rfl
theorem laid_pow : (Rows.laid_internal_strconv_uint64pow10 : DataW Unit) = Lib.tabData .u64 En.g_pow10 := rfl
set_option maxRecDepth 100000 in
theorem laid_first : Rows.laid_unicode_utf8_first = Lib.tabData .u8 En.g_first := by
  show DataW.agg (Go.Pinned.numbers .u8 Go.Pinned.utf8FirstZ) = .agg _
  rw [show En.g_first = Go.Pinned.utf8FirstZ.map Int.ofNat by decide +kernel, List.map_map]
  rfl
theorem get_some {l : List Int} {i : Nat} (h : i < l.length) : l[i]? = some (l.getD i 0) := by rw [List.getD_eq_getElem?_getD, List.getElem?_eq_getElem h]; rfl
theorem acc_at : ∀ i, i < 16 → ∀ j, j < 2 → (acc.getD i []).getD j 0 = En.g_accept.getD (2 * i + j) 0 := by decide
theorem acc_len : ∀ i, i < 16 → (acc.getD i []).length = 2 := by decide
theorem trod_iface_cells {H : Type} {enc : TypeId × Value → H} {P : Program} {w : World} {base : Nat} {sp : Nat → Bool} {t : TypeId} {ms : Array (String × TypeId)} {fuel : Nat} {cs : List Value} {n : String} {d : DataW H} {p : List MemPlace} (ht : P.underlying t = some (.interface ms))
    (h : DataW.trod enc P w base sp false fuel t cs = some (.iface n d, p)) : ∃ u v, cs = [.iface u v] := by
  cases fuel with
  | zero => simp [DataW.trod] at h
  | succ k =>
    unfold DataW.trod at h
    rw [ht] at h
    split at h
    all_goals first
      | exact ⟨_, _, rfl⟩
      | (simp at h; done)
      | (rename_i h1 _; cases h1; done)
      | (rename_i h1; cases h1; done)
      | simp_all
theorem glb_err {P : Program} {W : World} {n m : String} {k t0 : Nat} {ms : Array (String × TypeId)} {d : DataW Unit} (hr : Lib.VarReads P W n (.iface m d)) (hg : P.globalNamed n = some k) (hty : (P.globals[k]?).map (·.type) = some t0) (hu : P.underlying t0 = some (.interface ms)) :
    k < W.heap.size ∧ ∃ te pe, W.cell? ⟨k, 0, none⟩ = some (.iface te pe) := by
  obtain ⟨g, t, cs, fuel, p, hg', hty', hvar, hd⟩ := hr
  obtain rfl := Option.some.inj (hg.symm.trans hg')
  obtain rfl := Option.some.inj (hty.symm.trans hty')
  obtain ⟨u, v, hc⟩ := trod_iface_cells hu hd
  obtain ⟨h1, h2, _⟩ := glb_one hg hvar hc
  exact ⟨h1, u, v, h2 0 _ rfl⟩
theorem returns_shaped {H : Type} {enc : TypeId × Value → H} {a : Assume} {C : Checked} {os : Os} {f : FuncId} {fn : Func} {s : ChangeSpec} {conds : List PathCond} {apart fresh handsOn again : Bool} {X : World → Array Value → Prop}
    (hX : ∀ (w w' : World) (args : Array Value), w.heap = w'.heap → X w args → X w' args)
    (own : ownKnob C.prog.godebug = none) (started : os.Started) (noInit : C.prog.inits.idxOf? f = none) (hfn : C.prog.funcs[f]? = some fn)
    (witness : ∃ (w : World) (tape : Tape) (i : Input), w.os = os ∧ (w.forCall tape i).Shaped C.prog ∧ i.vars = [] ∧ Input.okWide C.prog (w.forCall tape i) .any w.heap.size f i ∧
      ((s.pre enc C.prog fn conds apart (w.forCall tape i).memory i.args ∧ X (w.forCall tape i).memory i.args) ∧ sizedMet enc C.prog fn (OpenSpec.ofChange s) apart (w.forCall tape i).memory i.args) ∧ a.holds C.prog (lone (Frame.enter C.prog f i.args .normal) [] (w.forCall tape i)))
    (contract : ∀ (W : World) (base : Nat) (args : Array Value) (ds gs : List (DataW H)) (before : List MemPlace),
      (∀ (j : Nat) t v, fn.params[j]? = some t → args[j]? = some v → Value.okWide C.prog W .any base t v) →
      DataW.Whole enc C.prog fn.params.toList s.vars apart W args.toList ds gs before →
      (DataW.weightsEach C.prog (fn.params.toList ++ s.plain.varTypes C.prog) (ds ++ gs)).all (· ≤ reachBytes) = true → X W args → W.ShapedOpen C.prog →
      Calls C.prog f args W fun e W' => ∃ v, e = .returned v ∧ s.post enc C.prog fn apart fresh handsOn again W args v W') :
    ReturnsInHanded a C os f .any (fun w args => (s.pre enc C.prog fn conds apart w args ∧ X w args) ∧ sizedMet enc C.prog fn (OpenSpec.ofChange s) apart w args) (s.post enc C.prog fn apart fresh handsOn again) := by
  refine returnsInHanded_of_calls own started noInit witness ?_
  intro w tape i _ hsh _ hok hpre hholds
  obtain ⟨_, _, _, fn', hfn', _, _, _, _, hval⟩ := hok
  have e : fn' = fn := Option.some.inj (hfn'.symm.trans hfn)
  subst e
  obtain ⟨⟨⟨ds, gs, before, hw, hc⟩, hx⟩, hz⟩ := hpre
  have hw' := DataW.Whole.of_heap (w' := w.forCall tape i) (by rfl) hw
  refine (contract (w.forCall tape i) w.heap.size i.args ds gs before hval hw' (hz.weights hw) (hX _ _ _ (by rfl) hx) hsh).mono fun e W' ⟨v, he, hp⟩ => ?_
  subst he
  exact ChangeSpec.post_blind hp
set_option maxRecDepth 100000 in
theorem glOk_of_laid {W : World} (h : laidMetH Tryz.prog lay W) (hsh : W.ShapedOpen Tryz.prog) : En.GlOk (En.gW W) := by
  rw [MakeChecks.laidMetH_plain _ _ _ (by kernel_rfl)] at h
  have hp := Lib.laidMet.reads h (n := "internal/strconv.uint64pow10") (d := Rows.laid_internal_strconv_uint64pow10) (by simp [lay])
  have hf := Lib.laidMet.reads h (n := "unicode/utf8.first") (d := Rows.laid_unicode_utf8_first) (by simp [lay])
  have ha := Lib.laidMet.reads h (n := "unicode/utf8.acceptRanges") (d := Rows.laid_unicode_utf8_acceptRanges) (by simp [lay])
  rw [laid_pow] at hp
  rw [laid_first] at hf
  rw [laid_acc] at ha
  have kp : Tryz.prog.globalNamed "internal/strconv.uint64pow10" = some 1 := by kernel_rfl
  have kf : Tryz.prog.globalNamed "unicode/utf8.first" = some 6 := by kernel_rfl
  have ka : Tryz.prog.globalNamed "unicode/utf8.acceptRanges" = some 7 := by kernel_rfl
  have gp : (En.gW W).G 1 ∧ (∀ (j : Nat) (x : Value), (En.g_pow10.map (Value.int .u64))[j]? = some x → (En.gW W).W.cell? ⟨1, j, none⟩ = some x) ∧ ∃ t m, (En.gW W).W.heap[1]? = some (.cells ((En.g_pow10.map (Value.int .u64))).toArray t m) := by
    obtain ⟨g, t, cs, fuel, p, hg, hty, hvar, hd⟩ := hp
    obtain rfl := Option.some.inj (kp.symm.trans hg)
    obtain rfl := Option.some.inj ((show (Tryz.prog.globals[1]?).map (·.type) = some 166 by kernel_rfl).symm.trans hty)
    exact glb_one kp hvar (Lib.cells_of_tab Tryz.underlying166 Tryz.underlying128 (by kernel_rfl) (by kernel_rfl) hd)
  have gf : (En.gW W).G 6 ∧ (∀ (j : Nat) (x : Value), (En.g_first.map (Value.int .u8))[j]? = some x → (En.gW W).W.cell? ⟨6, j, none⟩ = some x) ∧ ∃ t m, (En.gW W).W.heap[6]? = some (.cells ((En.g_first.map (Value.int .u8))).toArray t m) := by
    obtain ⟨g, t, cs, fuel, p, hg, hty, hvar, hd⟩ := hf
    obtain rfl := Option.some.inj (kf.symm.trans hg)
    obtain rfl := Option.some.inj ((show (Tryz.prog.globals[6]?).map (·.type) = some 202 by kernel_rfl).symm.trans hty)
    exact glb_one kf hvar (Lib.cells_of_tab Tryz.underlying202 Tryz.underlying5 (by kernel_rfl) (by kernel_rfl) hd)
  have ga : (En.gW W).G 7 ∧ (∀ (j : Nat) (x : Value), (En.g_accept.map (Value.int .u8))[j]? = some x → (En.gW W).W.cell? ⟨7, j, none⟩ = some x) ∧ ∃ t m, (En.gW W).W.heap[7]? = some (.cells ((En.g_accept.map (Value.int .u8))).toArray t m) := by
    obtain ⟨g, t, cs, fuel, p, hg, hty, hvar, hd⟩ := ha
    obtain rfl := Option.some.inj (ka.symm.trans hg)
    obtain rfl := Option.some.inj ((show (Tryz.prog.globals[7]?).map (·.type) = some 205 by kernel_rfl).symm.trans hty)
    have hcs : cs.toList = En.g_accept.map (Value.int .u8) := by
      have hlen : cs.toList.length = 32 := by
        obtain ⟨_, _, _, _, hl, _⟩ := DataW.trod_array Tryz.underlying205 hd
        rw [hl]; kernel_rfl
      apply List.ext_getElem?
      intro i
      by_cases hi : i < 32
      · have hq : i / 2 < 16 := by omega
        obtain ⟨fuel', d, q, hdi, he⟩ := Lib.array_elem Tryz.underlying205 hd (i / 2) hq
        simp only [List.getElem?_map] at hdi
        rw [show acc[i / 2]? = some (acc.getD (i / 2) []) by rw [List.getD_eq_getElem?_getD, List.getElem?_eq_getElem (by show i / 2 < 16; exact hq)]; rfl] at hdi
        simp only [Option.map_some, Option.some.injEq] at hdi
        subst hdi
        rw [show Tryz.prog.cellsOf 204 = 2 by kernel_rfl] at he
        have hcs := Lib.ints_of_struct Tryz.underlying204 (fun j f hj => by
          match j, hj with
          | 0, hj => cases hj; exact ⟨Tryz.underlying5, rfl, by kernel_rfl⟩
          | 1, hj => cases hj; exact ⟨Tryz.underlying5, rfl, by kernel_rfl⟩
          | j + 2, hj => simp at hj) (by kernel_rfl) he
        have h2 := congrArg (·[i % 2]?) hcs
        simp only [List.getElem?_take, List.getElem?_drop, List.getElem?_map] at h2
        rw [if_pos (by omega), show i / 2 * 2 + i % 2 = i by omega] at h2
        rw [h2, List.getElem?_map]
        have e1 : (acc.getD (i / 2) [])[i % 2]? = some ((acc.getD (i / 2) []).getD (i % 2) 0) := get_some (by rw [acc_len _ hq]; omega)
        have e2 : En.g_accept[i]? = some (En.g_accept.getD i 0) := get_some (by show i < 32; exact hi)
        rw [e1, e2, acc_at _ hq _ (by omega), show 2 * (i / 2) + i % 2 = i by omega]
      · rw [List.getElem?_eq_none (by omega), List.getElem?_eq_none (by simp [En.g_accept]; omega)]
    exact glb_one ka hvar hcs
  have gr := glb_err (Lib.laidMet.reads h (n := "strconv.ErrRange") (d := Rows.laid_strconv_ErrRange) (by simp [lay])) (show Tryz.prog.globalNamed "strconv.ErrRange" = some 3 by kernel_rfl) (show (Tryz.prog.globals[3]?).map (·.type) = some 109 by kernel_rfl) Tryz.underlying109
  have gs := glb_err (Lib.laidMet.reads h (n := "strconv.ErrSyntax") (d := Rows.laid_strconv_ErrSyntax) (by simp [lay])) (show Tryz.prog.globalNamed "strconv.ErrSyntax" = some 2 by kernel_rfl) (show (Tryz.prog.globals[2]?).map (·.type) = some 109 by kernel_rfl) Tryz.underlying109
  obtain ⟨m, hm⟩ := cell_of_shapedOpen_int (g := 0) (t := 3) (zero := #[.int .i64 0]) (k := .i64) hsh (of_decide_eq_true (by kernel_rfl)) (by kernel_rfl) rfl (by kernel_rfl) (by kernel_rfl) Tryz.underlying3
  have hml : 0 < W.heap.size := World.block_lt_of_cell? W _ hm
  have one : ∀ {k : Nat} {ys : List Value}, En.glw k = 0 → ((En.gW W).G k ∧ (∀ (j : Nat) (x : Value), ys[j]? = some x → (En.gW W).W.cell? ⟨k, j, none⟩ = some x) ∧ ∃ t m, (En.gW W).W.heap[k]? = some (.cells ys.toArray t m)) → (En.gW W).G k ∧ En.GlRest (En.gW W).W k ys := fun h0 h =>
    ⟨h.1, fun _ => h.2, fun e => (by rw [h0] at e; cases e), fun e => (by rw [h0] at e; cases e)⟩
  have err : ∀ {k : Nat}, En.glw k = 2 → (k < W.heap.size ∧ ∃ te pe, W.cell? ⟨k, 0, none⟩ = some (.iface te pe)) → (En.gW W).G k ∧ En.GlRest (En.gW W).W k [] := fun h0 h =>
    ⟨h.1, fun e => (by rw [h0] at e; cases e), fun e => (by rw [h0] at e; cases e), fun _ => h.2⟩
  have num : (En.gW W).G 0 ∧ En.GlRest (En.gW W).W 0 [] := ⟨hml, fun e => (by cases e), fun _ => ⟨m, hm⟩, fun e => (by cases e)⟩
  intro k xs hk
  simp only [En.glb, En.look] at hk
  cases hb : Nat.beq 1 k with
  | true => rw [hb] at hk; have := Nat.eq_of_beq_eq_true hb; subst this; cases hk; exact one rfl gp
  | false =>
  rw [hb] at hk
  cases hb : Nat.beq 6 k with
  | true => rw [hb] at hk; have := Nat.eq_of_beq_eq_true hb; subst this; cases hk; exact one rfl gf
  | false =>
  rw [hb] at hk
  cases hb : Nat.beq 7 k with
  | true => rw [hb] at hk; have := Nat.eq_of_beq_eq_true hb; subst this; cases hk; exact one rfl ga
  | false =>
  rw [hb] at hk
  cases hb : Nat.beq 0 k with
  | true => rw [hb] at hk; have := Nat.eq_of_beq_eq_true hb; subst this; cases hk; exact num
  | false =>
  rw [hb] at hk
  cases hb : Nat.beq 2 k with
  | true => rw [hb] at hk; have := Nat.eq_of_beq_eq_true hb; subst this; cases hk; exact err rfl gs
  | false =>
  rw [hb] at hk
  cases hb : Nat.beq 3 k with
  | true => rw [hb] at hk; have := Nat.eq_of_beq_eq_true hb; subst this; cases hk; exact err rfl gr
  | false => rw [hb] at hk; cases hk
end Go.Proofs.YtbpbndlgfiammaaGreatDoor
