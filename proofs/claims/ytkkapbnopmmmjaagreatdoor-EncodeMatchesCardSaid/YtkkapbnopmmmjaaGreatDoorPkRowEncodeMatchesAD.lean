/- Lemmas and contracts for the row. -/
import Derived.Test.YtkkapbnopmmmjaaGreatDoorPkRowEncodeMatchesY
import Derived.Test.YtkkapbnopmmmjaaGreatDoorProg
import Derived.Test.YtkkapbnopmmmjaaGreatDoorPkRowEncodeMatchesX
import Derived.Test.YtkkapbnopmmmjaaGreatDoorPkRowEncodeMatchesAC
import Derived.Test.YtkkapbnopmmmjaaGreatDoorPkRowEncodeMatchesL
set_option linter.unusedVariables false
set_option linter.unusedSimpArgs false
set_option linter.unnecessarySimpa false
namespace Go.Proofs.YtkkapbnopmmmjaaGreatDoor.En
open Go Go.RowKit
def j7d : List (Nat × TD) := [(3, ⟨1, false, [.int .i64 0], [], none, 8, false, 1, 1⟩),
 (4, ⟨1, false, [.bool false], [], none, 1, true, 0, 2⟩),
 (22, ⟨1, false, [.slice none 0 0], [], some 3, 24, false, 0, 3⟩),
 (30, ⟨1, false, [.slice none 0 0], [], some 22, 24, false, 0, 0⟩),
 (155, ⟨1, false, [.nilFunc], [], none, 8, false, 0, 0⟩),
 (182, ⟨1, false, [.nilFunc], [], none, 8, false, 0, 0⟩),
 (205, ⟨1, false, [.map none], [], none, 8, false, 10, 4⟩)]
theorem q7d : q7v Tryz.prog j7d := ⟨⟨by kernel_rfl, by kernel_rfl, by kernel_rfl⟩, ⟨by kernel_rfl, by kernel_rfl, by kernel_rfl⟩, ⟨by kernel_rfl, by kernel_rfl, by kernel_rfl⟩, ⟨by kernel_rfl, by kernel_rfl, by kernel_rfl⟩, ⟨by kernel_rfl, by kernel_rfl, by kernel_rfl⟩, ⟨by kernel_rfl, by kernel_rfl, by kernel_rfl⟩, ⟨by kernel_rfl, by kernel_rfl, by kernel_rfl⟩, trivial⟩
def x6c : Cx := ⟨j7d, [], true⟩
theorem y5g : q1g Tryz.prog x6c := q1b q7d trivial
def k0o : CtF
 | [.im (.ls (.ints l)), .im (.val (.int .i64 n))], [] => some (l.length ≤ maxLen ∧ Fit n, .ints (Cn.at1 l n), [])
 | _, _ => none
theorem y7c : q0o Tryz.prog 161 k0o := by
 refine Sw (cx := x6c) Tryz.f161 Tryz.func161 ?_
 intro wW wO wβ G0 args os p r outs hσ hp
 have hcx := y5g
 unfold k0o at hσ
 split at hσ
 ·
  rename_i l n
  cases hσ
  refine ⟨by kernel_rfl, ?_⟩
  obtain ⟨hm1, hn⟩ := hp
  unfold maxLen at hm1
  refine Sz hcx [] [] [] [] (Zs (Sq hcx [] [12] [] [] [((!(decide (n < 0))) = true → ((!(decide (n < 0))) = true)), ((!(decide (n < 0))) = true → ((!(decide (n < 0))) = true)), ((!(decide (n < 0))) = true → ((!(decide (n < 0))) = true)), ((decide (n < 0)) = false → (!(decide (n < 0))) = true)] ?_ (Zi (b := (decide (n < 0)) || (decide (n ≥ (l.length : Int)))) (fun h0 => ?_) fun h0 => ?_)))
  ·
   refine ap ?_ (ap ?_ (ap ?_ (ap (by exact q1v) az))) <;>
    exact id
  ·
   try simp only [Bool.or_eq_true, Bool.or_eq_false_iff, Bool.and_eq_true, Bool.and_eq_false_iff, Bool.not_eq_true', Bool.not_eq_false', decide_eq_true_eq, decide_eq_false_iff_not, bne_iff_ne, bne_eq_false_iff_eq, beq_iff_eq, beq_eq_false_iff_ne] at h0
   have hr := Cn.j3h (l := l) (n := n) (by omega)
   exact Sz hcx [] [4] [12, 0, 1] [] (Zr (Fr (Fp 4 (.ints []) (Rv hcx (congrArg AV.ints (show [] = (Cn.at1 l n) from (by first | exact hr.symm | exact hr | done))) [] rfl))))
  ·
   try simp only [Bool.or_eq_true, Bool.or_eq_false_iff, Bool.and_eq_true, Bool.and_eq_false_iff, Bool.not_eq_true', Bool.not_eq_false', decide_eq_true_eq, decide_eq_false_iff_not, bne_iff_ne, bne_eq_false_iff_eq, beq_iff_eq, beq_eq_false_iff_ne] at h0
   have hr := Cn.k2v (l := l) (n := n) (by omega) (by omega)
   refine Zk (Ft (Sq hcx [] [4] [12, 0, 1] [] [Fit (n + 1), ((0 : Int) ≤ n ∧ n ≤ (n + 1) ∧ (n + 1) ≤ (l.length : Int))] ?_ (Zr (Rv hcx (congrArg AV.ints (show ((l.take ((n + 1).toNat)).drop n.toNat) = (Cn.at1 l n) from (by first | exact hr.symm | exact hr | done))) [] rfl))))
   ·
    refine ap ?_ (ap ?_ az) <;>
     omega
 ·
  cases hσ
def y6o : Cx := ⟨j7d, [], true⟩
theorem y4l : q1g Tryz.prog y6o := q1b q7d trivial
def y7w : CtF
 | [.im (.ls (.ints l))], [] => some (l.length ≤ maxLen ∧ ∀ x ∈ l, -70000 ≤ x ∧ x ≤ 70000, .ints (Cn.q6f l), [])
 | _, _ => none
theorem y4c : q0o Tryz.prog 159 y7w := by
 refine Sw (cx := y6o) Tryz.f159 Tryz.func159 ?_
 intro wW wO wβ G0 args os p r outs hσ hp
 have hcx := y4l
 unfold y7w at hσ
 split at hσ
 ·
  rename_i l
  cases hσ
  refine ⟨by kernel_rfl, ?_⟩
  obtain ⟨hm1, hm2⟩ := hp
  have hb := fun (h : 0 < l.length) => hm2 _ (Cn.q0u (d := (0 : Int)) (k := 0) h)
  refine Sz hcx [] [] [] [] (Zs (Sz hcx [] [5] [] [] (Zu (a := (l.length : Int)) (b := 0) (fun h0 => ?_) fun h0 => ?_)))
  ·
   have hr := Cn.x9r (l := l) h0
   exact Sz hcx [] [2] [5, 0] [] (Zr (Fr (Fp 2 (.ints []) (Rv hcx (congrArg AV.ints (show [] = (Cn.q6f l) from (by first | exact hr.symm | done))) [] rfl))))
  ·
   have h5 := h0
   have hr := Cn.x9q (l := l) h0
   have hb0 := hb (by omega)
   refine Zk (Ft (Sq hcx [] [2] [5, 0] [] [((0 : Int) ≤ 0 ∧ 0 < (l.length : Int)), Fit (-(l.getD 0 0))] ?_ (Zr (Rv hcx (congrArg AV.ints (show [(-(l.getD 0 0))] = (Cn.q6f l) from (by first | exact hr.symm | done))) [] rfl))))
   ·
    refine ap ?_ (ap ?_ az) <;>
     omega
 ·
  cases hσ
def y9c : Cx := ⟨j7d, [], true⟩
theorem y3d : q1g Tryz.prog y9c := q1b q7d trivial
def y6k : CtF
 | [.im (.ls (.intss ps)), .loc 0 0], [.box [.row 1], .row 22 (.intss c)] => some (ps.length ≤ 3 ∧ (∀ x ∈ ps, x.length ≤ 3) ∧ c.length ≤ 1000000000000, .tup [], [some (.box [.row 2]), none, some (.row 22 (.intss (c ++ [ps.flatten])))])
 | _, _ => none
theorem y2o : q0o Tryz.prog 158 y6k := by
 refine Sw (cx := y9c) Tryz.f158 Tryz.func158 ?_
 intro wW wO wβ G0 args os p r outs hσ hp
 have hcx := y3d
 unfold y6k at hσ
 split at hσ
 ·
  rename_i ps c
  cases hσ
  refine ⟨by kernel_rfl, ?_⟩
  obtain ⟨hm1, hm2, hm3⟩ := hp
  have hb := fun i (h : i < ps.length) => hm2 _ (Cn.q0u (d := ([] : List Int)) (k := i) h)
  have hf := fun i => Cn.flat3 (ps := ps) hm1 hm2 i
  refine Sz hcx [] [3] [] [] (Zs (Sz hcx [] [6, 7, 8] [0] [] (Zb (Zw 3 700 3 (.ints []) (Zn [(0, .to 0), (1, .to 1), (700, .to 700)] [1, 3, 6, 7, 8] (Lp (X := Nat) (fun x0 => x0 ≤ ps.length) (fun x0 => ([(1, .loc 0 0), (3, .row 700), (6, .intss ps), (7, .int (ps.length : Int)), (8, .int (x0 : Int))], [(0, .box [.row 1]), (1, .row 22 (.intss c)), (700, .row 3 (.ints ((ps.take x0).flatten)))])) (fun x0 => ps.length - x0) (0) ?_ (Ex 8 (congrArg AV.int (show 0 = (0 : Int) from (by first | rfl | omega | (simp; done)))) Eb) Hb fun i hI => ?_))))))
  ·
   show 0 ≤ ps.length
   omega
  ·
   replace hI : i ≤ ps.length := hI
   have hbi := hb i
   have hfi := hf i
   refine Sz hcx [] [9] [] [] (Zs (Zj (p := ((i : Int) < (ps.length : Int))) (fun h0 => ?_) fun h0 => ?_))
   ·
    refine Zk (Ft (Zs (Zb (Sq hcx [] [5] [9] [] [((0 : Int) ≤ (i : Int) ∧ (i : Int) < (ps.length : Int))] ?_ (Tq hcx [(1002, .to 700)] [3] [5] [700] [((((ps.take i).flatten).length + (ps.getD i []).length) * 8 ≤ 140737488355328)] ?_ (Fb (Ft (Tq hcx [] [8] [] [] [Fit ((i : Int) + 1)] ?_ (Fn [(0, .to 0), (1, .to 1), (700, .to 700)] [1, 3, 6, 7, 8] (Lr (i + 1) ?_ ?_ (Ex 8 (congrArg AV.int (show ((i : Int) + 1) = ((i + 1) : Int) from (by first | rfl | omega | (simp; done)))) Eb) (Hx 700 (congrArg (fun x => q0d.row 3 (.ints x)) (show (((ps.take i).flatten) ++ (ps.getD i [])) = ((ps.take (i + 1)).flatten) from (by exact Cn.y8s (by omega)))) Hb)))))))))))
    ·
     refine ap ?_ az
     omega
    ·
     refine ap ?_ az
     omega
    ·
     refine ap ?_ az
     omega
    ·
     show (i + 1) ≤ ps.length
     omega
    ·
     show ps.length - (i + 1) < ps.length - i
     omega
   ·
    refine Ze (Fe (Fe (Fs (Ft (Tq hcx [(0, .to 0), (1003, .to 219)] [] [9, 1, 3, 6, 7, 8] [1, 700] [((c.length + [((ps.take i).flatten)].length) * 24 ≤ 140737488355328)] ?_ (Fn [(0, .to 0), (219, .to 2)] [] (Rw hcx rfl [true, false, true] (q0r rfl (q0r rfl (q0r (congrArg some (congrArg (fun x => q0d.row 22 (.intss x)) (show (c ++ [((ps.take i).flatten)]) = (c ++ [ps.flatten]) from (by (rw [show i = ps.length by omega, List.take_length]))))) rfl))))))))))
    ·
     refine ap ?_ az
     (simp only [List.length_cons, List.length_nil, List.length_append, List.length_map, List.length_set, List.length_replicate]; omega)
 ·
  cases hσ
def j3b : Cx := ⟨j7d, [], true⟩
theorem j5w : q1g Tryz.prog j3b := q1b q7d trivial
def z2r : CtF
 | [.im (.ls (.ints l)), .im (.val (.int .i64 next))], [] => some (l.length ≤ maxLen ∧ (∀ x ∈ l, -70000 ≤ x ∧ x ≤ 70000), .bool (Cn.q2v next l), [])
 | _, _ => none
theorem z1n : q0o Tryz.prog 157 z2r := by
 refine Sw (cx := j3b) Tryz.f157 Tryz.func157 ?_
 intro wW wO wβ G0 args os p r outs hσ hp
 have hcx := j5w
 unfold z2r at hσ
 split at hσ
 ·
  rename_i l next
  cases hσ
  refine ⟨by kernel_rfl, ?_⟩
  obtain ⟨hm1, hm2⟩ := hp
  unfold maxLen at hm1
  have hb := fun i (h : i < l.length) => hm2 _ (Cn.q0u (d := (0 : Int)) (k := i) h)
  refine Sz hcx [] [] [] [] (Sq hcx [(1000, .to 209)] [5] [] [] [(true = true)] ?_ (Zs (Sz hcx [] [11, 12, 13] [0] [] (Zb (Zn [(209, .to 700)] [1, 5, 11, 12, 13] (Lp (X := Nat) (fun x0 => x0 ≤ l.length ∧ ∀ j, j < x0 → Cn.j2x next l j = true) (fun x0 => ([(1, .int next), (5, .row 700), (11, .ints l), (12, .int (l.length : Int)), (13, .int (x0 : Int))], [(700, .mset (Cn.z6d (l.take x0)))])) (fun x0 => l.length - x0) (0) ?_ (Ex 13 (congrArg AV.int (show 0 = (0 : Int) from (by first | rfl | omega | (simp; done)))) Eb) Hb fun i hI => ?_))))))
  ·
   refine ap ?_ az
   exact rfl
  ·
   exact ⟨Nat.zero_le _, fun j hj => by omega⟩
  ·
   try dsimp only at hI
   obtain ⟨hk, hok⟩ := hI
   have hbi := hb i
   refine Sz hcx [] [14] [] [] (Zs (Zj (p := ((i : Int) < (l.length : Int))) (fun h0 => ?_) fun h0 => ?_))
   ·
    refine Zk (Ft (Zs (Zb (Sq hcx [] [7] [14] [] [((0 : Int) ≤ (i : Int) ∧ (i : Int) < (l.length : Int))] ?_ (Sq hcx [] [8] [7] [] [Fit (-(l.getD i 0))] ?_ (Zs (Sq hcx [] [32] [] [] [((!(decide ((max (l.getD i 0) (-(l.getD i 0))) < 0))) = true → ((!(decide ((max (l.getD i 0) (-(l.getD i 0))) < 0))) = true)), ((!(decide ((max (l.getD i 0) (-(l.getD i 0))) < 0))) = true → ((!(decide ((max (l.getD i 0) (-(l.getD i 0))) < 0))) = true)), ((decide ((max (l.getD i 0) (-(l.getD i 0))) < 0)) = false → (!(decide ((max (l.getD i 0) (-(l.getD i 0))) < 0))) = true), ((!((decide ((max (l.getD i 0) (-(l.getD i 0))) < 0)) || (decide ((max (l.getD i 0) (-(l.getD i 0))) ≥ next)))) = true → ((!((decide ((max (l.getD i 0) (-(l.getD i 0))) < 0)) || (decide ((max (l.getD i 0) (-(l.getD i 0))) ≥ next)))) = true)), ((!((decide ((max (l.getD i 0) (-(l.getD i 0))) < 0)) || (decide ((max (l.getD i 0) (-(l.getD i 0))) ≥ next)))) = true → ((!((decide ((max (l.getD i 0) (-(l.getD i 0))) < 0)) || (decide ((max (l.getD i 0) (-(l.getD i 0))) ≥ next)))) = true)), (((decide ((max (l.getD i 0) (-(l.getD i 0))) < 0)) || (decide ((max (l.getD i 0) (-(l.getD i 0))) ≥ next))) = false → (!((decide ((max (l.getD i 0) (-(l.getD i 0))) < 0)) || (decide ((max (l.getD i 0) (-(l.getD i 0))) ≥ next)))) = true)] ?_ (Zi (b := ((decide ((max (l.getD i 0) (-(l.getD i 0))) < 0)) || (decide ((max (l.getD i 0) (-(l.getD i 0))) ≥ next))) || ((Cn.z6d (l.take i)).contains (max (l.getD i 0) (-(l.getD i 0))))) (fun h1 => ?_) fun h1 => ?_))))))))
    ·
     refine ap ?_ az
     omega
    ·
     refine ap ?_ az
     omega
    ·
     refine ap ?_ (ap ?_ (ap (by exact q1v) (ap ?_ (ap ?_ (ap (by exact q1v) az))))) <;>
      exact id
    ·
     have hq : Cn.j2x next l i = false := Cn.k7x h1
     have hr := Cn.x8e (by omega) hq
     exact Sz hcx [] [4] [32, 8, 1, 5, 11, 12, 13] [700] (Zr (Fr (Fk (Fr (Fr (Fk (Fr (Rv hcx (congrArg AV.bool (show false = (Cn.q2v next l) from (by exact hr.symm))) [] rfl))))))))
    ·
     have hq : Cn.j2x next l i = true := Cn.k7z h1
     refine Zk (Ft (Tq hcx [(700, .to 700)] [] [32, 8] [] [(true = true)] ?_ (Fb (Ft (Tq hcx [] [13] [] [] [Fit ((i : Int) + 1)] ?_ (Lr (i + 1) ?_ ?_ (Ex 13 (congrArg AV.int (show ((i : Int) + 1) = ((i + 1) : Int) from (by first | rfl | omega | (simp; done)))) Eb) (Hx 700 (congrArg q0d.mset (show (y0s (Cn.z6d (l.take i)) (max (l.getD i 0) (-(l.getD i 0)))) = (Cn.z6d (l.take (i + 1))) from (by exact Cn.y7k (by omega)))) Hb)))))))
     ·
      refine ap ?_ az
      (have h8 := hbi (by omega); constructor <;> omega)
     ·
      refine ap ?_ az
      omega
     ·
      exact ⟨by omega, fun j hj => by rcases (by omega : j < i ∨ j = i) with h | rfl; exact hok j h; exact hq⟩
     ·
      show l.length - (i + 1) < l.length - i
      omega
   ·
    have hr := Cn.y8m (next := next) (by omega) hok
    exact Ze (Fe (Fe (Fs (Ft (Sz hcx [] [4] [14, 1, 5, 11, 12, 13] [700] (Zr (Rv hcx (congrArg AV.bool (show true = (Cn.q2v next l) from (by exact hr.symm))) [] rfl)))))))
 ·
  cases hσ
def z4j (nn : Nat) : CtF
 | [.im (.ls (.ints l)), .loc 0 0, .loc 1 0, .pto [.val (.int .i64 most)], .loc 2 0, .loc 3 0, .loc 4 0], [.box [.im (.val (.bool fl))], .box [.clo 160 [.loc 0 0, .loc 1 0, .pto [.val (.int .i64 mo2)], .loc 2 0, .loc 3 0, .loc 4 0]], .box [.im (.val (.int .i64 nx))], .box [.clo 158 [.loc 5 0]], .box [.clo 159 []], .box [.row 6], .row 22 (.intss c)] => some (1 ≤ l.length ∧ l.length ≤ 4096 ∧ (∀ x ∈ l, -65537 ≤ x ∧ x ≤ 65537) ∧ 0 ≤ most ∧ most ≤ 1099511627776 ∧ 1 ≤ nx ∧ nx ≤ 65537 ∧ mo2 = most ∧ c.length + 8 * (l.length * l.length) ≤ 1000000000 ∧ l.length < nn, .ints (Cn.z5u most l nx fl c), [some (.box [.bool (Cn.z3f most l nx fl c)]), some (.box [.clo 160 [.loc 0 0, .loc 1 0, .pto [.int mo2], .loc 2 0, .loc 3 0, .loc 4 0]]), some (.box [.int (Cn.z5v most l nx fl c)]), some (.box [.clo 158 [.loc 5 0]]), some (.box [.clo 159 []]), some (.box [.row 7]), none, some (.row 22 (.intss (Cn.z8s most l nx fl c)))])
 | _, _ => none
def y4w (nn : Nat) : Cx := ⟨j7d, [(161, (q2g [.ld (.ints []), .id] k0o)), (159, (q2g [.ld (.ints [])] y7w)), (158, (q2g [.ld (.intss []), .id] y6k)), (157, (q2g [.ld (.ints []), .id] z2r)), (160, (q2g [.ld (.ints []), .id, .id, .id, .id, .id, .id] (z4j nn)))], true⟩
theorem y4h (nn : Nat) (hR : q0o Tryz.prog 160 (z4j nn)) : q1g Tryz.prog (y4w nn) := q1b q7d ⟨(y7c.coe [.ld (.ints []), .id] rfl), (y4c.coe [.ld (.ints [])] rfl), (y2o.coe [.ld (.intss []), .id] rfl), (z1n.coe [.ld (.ints []), .id] rfl), (hR.coe [.ld (.ints []), .id, .id, .id, .id, .id, .id] rfl), trivial⟩
set_option maxRecDepth 20000 in
set_option maxHeartbeats 4000000 in
theorem y7h (nn : Nat) (hR : q0o Tryz.prog 160 (z4j nn)) : q0o Tryz.prog 160 (z4j (nn + 1)) := by
 refine Sw (cx := (y4w nn)) Tryz.f160 Tryz.func160 ?_
 intro wW wO wβ G0 args os p r outs hσ hp
 have hcx := y4h nn hR
 have hmx : Tryz.prog.follows .mixedOrders = true := by kernel_rfl
 unfold z4j at hσ
 split at hσ
 ·
  rename_i l most fl mo2 nx c
  cases hσ
  refine ⟨by kernel_rfl, ?_⟩
  obtain ⟨h1_, h2_, hlb, hm0, hm1, hn1, hn2, hmo, hsz, hnn⟩ := hp
  have hhalf := Cn.x0k l
  have hMN : ((Cn.MN most l) : Int) = min (l.length : Int) most := Int.toNat_of_nonneg (by omega)
  refine Sz hcx [] [] [] [] (Zs (Sq hcx [] [24] [] [] [(((l.length : Int) == 1) = false → (!((l.length : Int) == 1)) = true)] (ap (by exact q1v) az) (Zi (b := ((l.length : Int) == 1) || fl) (fun h0 => ?_) fun h0 => ?_)))
  ·
   have h24 := h0
   obtain ⟨e1, e2, e3, e4⟩ := Cn.x5d (most := most) (nx := nx) (c := c) h1_ h24
   exact Sz hcx [] [8] [24, 0, 1, 2, 3, 4, 5, 6] [] (Zr (Fr (Fn [(0, .to 0), (1, .to 1), (2, .to 2), (3, .to 3), (4, .to 4), (5, .to 5), (6, .to 7)] [8] (Rv hcx (congrArg AV.ints (show l = (Cn.z5u most l nx fl c) from (by exact e1.symm))) [true, true, true, true, true, true, false, true] (q0r (congrArg some (congrArg q0d.box (q0c (congrArg AV.bool (show fl = (Cn.z3f most l nx fl c) from (by exact e3.symm))) rfl))) (q0r rfl (q0r (congrArg some (congrArg q0d.box (q0c (congrArg AV.int (show nx = (Cn.z5v most l nx fl c) from (by exact e2.symm))) rfl))) (q0r rfl (q0r rfl (q0r rfl (q0r rfl (q0r (congrArg some (congrArg (fun x => q0d.row 22 (.intss x)) (show c = (Cn.z8s most l nx fl c) from (by exact e4.symm)))) rfl))))))))))))
  ·
   have h24 := h0
   have h2l := Cn.k9m h1_ h24
   obtain ⟨⟨q1, q2, q3, q4⟩, ⟨a1, a2, a3, a4, a5⟩, ⟨b1, b2, b3, b4, b5⟩, hsq⟩ := Cn.k6c (most := mo2) (fl := fl) (c := c) (by omega) h2l hn1 hn2 hlb
   have q1r : ((l.take (((l.length : Int).tdiv 2).toNat)).drop 0).length = l.length / 2 := q1
   have q2r : ((l.take l.length).drop (((l.length : Int).tdiv 2).toNat)).length = l.length - l.length / 2 := q2
   clear q1 q2
   refine Zk (Ft (Sq hcx [] [9] [24] [] [((2 : Int) ≠ 0 ∧ Fit ((l.length : Int).tdiv 2))] ?_ (Sd hcx hmx [0, 0, 0, 6, 15, 31] [(0, .to 0), (1, .to 1), (2, .to 2), (3, .to 3), (4, .to 4), (5, .to 5), (1004, .to 233)] [10] [] [6] [((0 : Int) ≤ ((l.length : Int).tdiv 2) ∧ ((l.length : Int).tdiv 2) ≤ (l.length : Int)), (1 ≤ ((l.take (((l.length : Int).tdiv 2).toNat)).drop 0).length ∧ ((l.take (((l.length : Int).tdiv 2).toNat)).drop 0).length ≤ 4096 ∧ (∀ x ∈ ((l.take (((l.length : Int).tdiv 2).toNat)).drop 0), -65537 ≤ x ∧ x ≤ 65537) ∧ 0 ≤ mo2 ∧ mo2 ≤ 1099511627776 ∧ 1 ≤ nx ∧ nx ≤ 65537 ∧ mo2 = mo2 ∧ c.length + 8 * (((l.take (((l.length : Int).tdiv 2).toNat)).drop 0).length * ((l.take (((l.length : Int).tdiv 2).toNat)).drop 0).length) ≤ 1000000000 ∧ ((l.take (((l.length : Int).tdiv 2).toNat)).drop 0).length < nn)] ?_ (Sd hcx hmx [0, 0, 0, 6, 15, 31] [(0, .to 0), (1, .to 1), (2, .to 2), (3, .to 3), (4, .to 4), (5, .to 5), (1004, .to 233)] [11] [9, 2] [233] [((0 : Int) ≤ ((l.length : Int).tdiv 2) ∧ ((l.length : Int).tdiv 2) ≤ (l.length : Int)), (1 ≤ ((l.take l.length).drop (((l.length : Int).tdiv 2).toNat)).length ∧ ((l.take l.length).drop (((l.length : Int).tdiv 2).toNat)).length ≤ 4096 ∧ (∀ x ∈ ((l.take l.length).drop (((l.length : Int).tdiv 2).toNat)), -65537 ≤ x ∧ x ≤ 65537) ∧ 0 ≤ mo2 ∧ mo2 ≤ 1099511627776 ∧ 1 ≤ (Cn.N1 mo2 l nx fl c) ∧ (Cn.N1 mo2 l nx fl c) ≤ 65537 ∧ mo2 = mo2 ∧ (Cn.C1 mo2 l nx fl c).length + 8 * (((l.take l.length).drop (((l.length : Int).tdiv 2).toNat)).length * ((l.take l.length).drop (((l.length : Int).tdiv 2).toNat)).length) ≤ 1000000000 ∧ ((l.take l.length).drop (((l.length : Int).tdiv 2).toNat)).length < nn)] ?_ (Sz hcx [] [12] [0, 3] [] (Zs (Sq hcx [(0, .to 0)] [] [] [] [((!(Cn.B2 mo2 l nx fl c)) = true → ((!(Cn.B2 mo2 l nx fl c)) = true)), ((!(Cn.B2 mo2 l nx fl c)) = true → ((!(Cn.B2 mo2 l nx fl c)) = true)), ((!(Cn.B2 mo2 l nx fl c)) = true → Fit ((Cn.N2 mo2 l nx fl c) + (min (l.length : Int) most))), ((!(Cn.B2 mo2 l nx fl c)) = true → ((!(Cn.B2 mo2 l nx fl c)) = true)), ((Cn.B2 mo2 l nx fl c) = false → (!(Cn.B2 mo2 l nx fl c)) = true)] ?_ (Sz hcx [] [50] [1] [] (Zi (b := (Cn.B2 mo2 l nx fl c) || (decide (((Cn.N2 mo2 l nx fl c) + (min (l.length : Int) most)) > 65537))) (fun h1 => ?_) fun h1 => ?_)))))))))
   ·
    refine ap ?_ az
    omega
   ·
    refine ap ?_ (ap ?_ az) <;>
     first | omega | exact ⟨by omega, by omega, q3, by omega, by omega, hn1, hn2, rfl, by rw [q1r]; omega, by omega⟩
   ·
    refine ap ?_ (ap ?_ az) <;>
     first | omega | exact ⟨by omega, by omega, q4, by omega, by omega, by omega, a4, rfl, by rw [q2r]; omega, by omega⟩
   ·
    refine ap ?_ (ap ?_ (ap ?_ (ap ?_ (ap (by exact q1v) az)))) <;>
     first | omega | exact id
   ·
    have hf := h1
    obtain ⟨e1, e2, e3, e4⟩ := Cn.x3o hmo h1_ h24 hf
    exact Sz hcx [] [8] [50, 12, 11, 10, 4, 5, 6] [] (Zr (Fr (Fp 8 (.ints []) (Fn [(0, .to 0), (1, .to 1), (2, .to 2), (3, .to 3), (4, .to 4), (5, .to 5), (233, .to 7)] [8] (Rv hcx (congrArg AV.ints (show [] = (Cn.z5u most l nx fl c) from (by exact e1.symm))) [true, true, true, true, true, true, false, true] (q0r (congrArg some (congrArg q0d.box (q0c (congrArg AV.bool (show ((Cn.B2 mo2 l nx fl c) || (decide (((Cn.N2 mo2 l nx fl c) + (min (l.length : Int) most)) > 65537))) = (Cn.z3f most l nx fl c) from (by (rw [e3]; exact hf)))) rfl))) (q0r rfl (q0r (congrArg some (congrArg q0d.box (q0c (congrArg AV.int (show (Cn.N2 mo2 l nx fl c) = (Cn.z5v most l nx fl c) from (by exact e2.symm))) rfl))) (q0r rfl (q0r rfl (q0r rfl (q0r rfl (q0r (congrArg some (congrArg (fun x => q0d.row 22 (.intss x)) (show (Cn.C2 mo2 l nx fl c) = (Cn.z8s most l nx fl c) from (by exact e4.symm)))) rfl)))))))))))))
   ·
    have hf := h1
    obtain ⟨e1, e2, e3, e4⟩ := Cn.k3h hmo h1_ h24 hf
    obtain ⟨hb2, hle⟩ := Cn.k7i hf
    have hol : ((Cn.q0f (Cn.N2 mo2 l nx fl c) (Cn.MN most l)).length : Int) = min (l.length : Int) most := by rw [Cn.q3w]; exact hMN
    have hob : ∀ x ∈ (Cn.q0f (Cn.N2 mo2 l nx fl c) (Cn.MN most l)), -65537 ≤ x ∧ x ≤ 65537 := fun x hx => by have := Cn.z2k hx; omega
    have hrep : (List.replicate (min (l.length : Int) most).toNat (0 : Int)).length = (Cn.MN most l) := List.length_replicate
    refine Zk (Ft (Sq hcx [(1001, .to 252)] [13] [50] [] [((0 : Int) ≤ (min (l.length : Int) most) ∧ (min (l.length : Int) most) ≤ ((min (l.length : Int) most) : Int) ∧ (min (l.length : Int) most).toNat * 8 ≤ 140737488355328)] ?_ (Zs (Sz hcx [] [54, 55] [] [] (Zb (Zn [(0, .to 0), (1, .to 1), (2, .to 2), (3, .to 3), (4, .to 4), (5, .to 5), (233, .to 233), (252, .to 252)] [4, 5, 6, 10, 11, 12, 13, 54, 55] (Lp (X := Nat) (fun x0 => x0 ≤ (Cn.MN most l)) (fun x0 => ([(4, .loc 2 0), (5, .loc 3 0), (6, .loc 4 0), (10, .ints (Cn.O1 mo2 l nx fl c)), (11, .ints (Cn.O2 mo2 l nx fl c)), (12, .int (min (l.length : Int) most)), (13, .row 252), (54, .int ((List.replicate (min (l.length : Int) most).toNat (0 : Int)).length : Int)), (55, .int (x0 : Int))], [(0, .box [.bool ((Cn.B2 mo2 l nx fl c) || (decide (((Cn.N2 mo2 l nx fl c) + (min (l.length : Int) most)) > 65537)))]), (1, .box [.clo 160 [.loc 0 0, .loc 1 0, .pto [.int mo2], .loc 2 0, .loc 3 0, .loc 4 0]]), (2, .box [.int ((Cn.N2 mo2 l nx fl c) + (x0 : Int))]), (3, .box [.clo 158 [.loc 5 0]]), (4, .box [.clo 159 []]), (5, .box [.row 233]), (233, .row 22 (.intss (Cn.C2 mo2 l nx fl c))), (252, .row 3 (.ints (Cn.q0f (Cn.N2 mo2 l nx fl c) x0 ++ List.replicate ((Cn.MN most l) - x0) (0 : Int))))])) (fun x0 => (Cn.MN most l) - x0) (0) ?_ (Ex 55 (congrArg AV.int (show 0 = (0 : Int) from (by first | rfl | omega | (simp; done)))) Eb) (Hx 2 (o := .box [.int (Cn.N2 mo2 l nx fl c)]) (o' := .box [.int ((Cn.N2 mo2 l nx fl c) + (0 : Int))]) (congrArg q0d.box (q0c (congrArg AV.int (show (Cn.N2 mo2 l nx fl c) = ((Cn.N2 mo2 l nx fl c) + (0 : Int)) from (by omega))) rfl)) Hb) fun i hI => ?_)))))))
    ·
     refine ap ?_ az
     omega
    ·
     show 0 ≤ (Cn.MN most l)
     omega
    ·
     replace hI : i ≤ (Cn.MN most l) := hI
     have hrl := Cn.x8f (n := (Cn.N2 mo2 l nx fl c)) hI
     refine Sz hcx [] [56] [] [] (Zs (Zj (p := ((i : Int) < ((List.replicate (min (l.length : Int) most).toNat (0 : Int)).length : Int))) (fun h2 => ?_) fun h2 => ?_))
     ·
      refine Zk (Ft (Zs (Zb (Sz hcx [] [14] [56] [] (Sq hcx [(252, .to 252)] [] [14] [] [((0 : Int) ≤ (i : Int) ∧ (i : Int) < ((Cn.q0f (Cn.N2 mo2 l nx fl c) i ++ List.replicate ((Cn.MN most l) - i) (0 : Int)).length : Int)), (i < (Cn.q0f (Cn.N2 mo2 l nx fl c) i ++ List.replicate ((Cn.MN most l) - i) (0 : Int)).length)] ?_ (Tq hcx [(2, .to 2)] [] [] [] [Fit (((Cn.N2 mo2 l nx fl c) + (i : Int)) + 1)] ?_ (Fb (Ft (Tq hcx [] [55] [] [] [Fit ((i : Int) + 1)] ?_ (Fn [(0, .to 0), (1, .to 1), (2, .to 2), (3, .to 3), (4, .to 4), (5, .to 5), (233, .to 233), (252, .to 252)] [4, 5, 6, 10, 11, 12, 13, 54, 55] (Lr (i + 1) ?_ ?_ (Ex 55 (congrArg AV.int (show ((i : Int) + 1) = ((i + 1) : Int) from (by first | rfl | omega | (simp; done)))) Eb) (Hx 2 (o := .box [.int (((Cn.N2 mo2 l nx fl c) + (i : Int)) + 1)]) (o' := .box [.int ((Cn.N2 mo2 l nx fl c) + ((i + 1) : Int))]) (congrArg q0d.box (q0c (congrArg AV.int (show (((Cn.N2 mo2 l nx fl c) + (i : Int)) + 1) = ((Cn.N2 mo2 l nx fl c) + ((i + 1) : Int)) from (by omega))) rfl)) (Hx 252 (congrArg (fun x => q0d.row 3 (.ints x)) (show ((Cn.q0f (Cn.N2 mo2 l nx fl c) i ++ List.replicate ((Cn.MN most l) - i) (0 : Int)).set i ((Cn.N2 mo2 l nx fl c) + (i : Int))) = (Cn.q0f (Cn.N2 mo2 l nx fl c) (i + 1) ++ List.replicate ((Cn.MN most l) - (i + 1)) (0 : Int)) from (by exact Cn.x0e (by omega)))) Hb)))))))))))))
      ·
       refine ap ?_ (ap ?_ az) <;>
        omega
      ·
       refine ap ?_ az
       omega
      ·
       refine ap ?_ az
       omega
      ·
       show (i + 1) ≤ (Cn.MN most l)
       omega
      ·
       try dsimp only
       omega
     ·
      refine Ze (Fe (Fe (Fs (Ft (Zs (Zs (Zn [(0, .to 0), (1, .to 1), (2, .to 2), (3, .to 3), (4, .to 4), (5, .to 5), (233, .to 233), (252, .frz)] [56, 4, 5, 6, 10, 11, 12, 13, 54, 55] (Tq hcx [] [67, 68] [56, 4, 54, 55] [] [Fit (((Cn.O1 mo2 l nx fl c).length : Int) + 1)] ?_ (Ft (Zb (Lp (X := Nat) (fun x0 => x0 ≤ (Cn.O1 mo2 l nx fl c).length + 1) (fun x0 => ([(5, .loc 3 0), (6, .loc 4 0), (10, .ints (Cn.O1 mo2 l nx fl c)), (11, .ints (Cn.O2 mo2 l nx fl c)), (12, .int (min (l.length : Int) most)), (13, .ints (Cn.q0f (Cn.N2 mo2 l nx fl c) (Cn.MN most l))), (67, .int (((Cn.O1 mo2 l nx fl c).length : Int) + 1)), (68, .int (x0 : Int))], [(0, .box [.bool ((Cn.B2 mo2 l nx fl c) || (decide (((Cn.N2 mo2 l nx fl c) + (min (l.length : Int) most)) > 65537)))]), (1, .box [.clo 160 [.loc 0 0, .loc 1 0, .pto [.int mo2], .loc 2 0, .loc 3 0, .loc 4 0]]), (2, .box [.int ((Cn.N2 mo2 l nx fl c) + (i : Int))]), (3, .box [.clo 158 [.loc 5 0]]), (4, .box [.clo 159 []]), (5, .box [.row 233]), (233, .row 22 (.intss ((Cn.C2 mo2 l nx fl c) ++ Cn.q3c (Cn.O1 mo2 l nx fl c) (Cn.O2 mo2 l nx fl c) (Cn.q0f (Cn.N2 mo2 l nx fl c) (Cn.MN most l)) x0)))])) (fun x0 => (Cn.O1 mo2 l nx fl c).length + 1 - x0) (0) ?_ (Ex 13 (congrArg AV.ints (show (Cn.q0f (Cn.N2 mo2 l nx fl c) i ++ List.replicate ((Cn.MN most l) - i) (0 : Int)) = (Cn.q0f (Cn.N2 mo2 l nx fl c) (Cn.MN most l)) from (by exact Cn.y9o (by omega)))) (Ex 68 (congrArg AV.int (show 0 = (0 : Int) from (by first | rfl | omega | (simp; done)))) Eb)) (Hx 233 (congrArg (fun x => q0d.row 22 (.intss x)) (show (Cn.C2 mo2 l nx fl c) = ((Cn.C2 mo2 l nx fl c) ++ Cn.q3c (Cn.O1 mo2 l nx fl c) (Cn.O2 mo2 l nx fl c) (Cn.q0f (Cn.N2 mo2 l nx fl c) (Cn.MN most l)) 0) from (by (simp [Cn.q3c]; done)))) Hb) fun j hI => ?_)))))))))))
      ·
       refine ap ?_ az
       omega
      ·
       show 0 ≤ (Cn.O1 mo2 l nx fl c).length + 1
       omega
      ·
       try dsimp only at hI
       have hj := hI
       refine Sz hcx [] [69] [] [] (Zs (Zj (p := ((j : Int) < (((Cn.O1 mo2 l nx fl c).length : Int) + 1))) (fun h3 => ?_) fun h3 => ?_))
       ·
        refine Zk (Ft (Zs (Zb (Sz hcx [] [15] [69] [] (Sq hcx [] [73, 74] [] [] [Fit (((Cn.O2 mo2 l nx fl c).length : Int) + 1)] ?_ (Zb (Lp (X := Nat) (fun x0 => x0 ≤ (Cn.O2 mo2 l nx fl c).length + 1) (fun x0 => ([(5, .loc 3 0), (6, .loc 4 0), (10, .ints (Cn.O1 mo2 l nx fl c)), (11, .ints (Cn.O2 mo2 l nx fl c)), (12, .int (min (l.length : Int) most)), (13, .ints (Cn.q0f (Cn.N2 mo2 l nx fl c) (Cn.MN most l))), (15, .int (j : Int)), (67, .int (((Cn.O1 mo2 l nx fl c).length : Int) + 1)), (68, .int (j : Int)), (73, .int (((Cn.O2 mo2 l nx fl c).length : Int) + 1)), (74, .int (x0 : Int))], [(0, .box [.bool ((Cn.B2 mo2 l nx fl c) || (decide (((Cn.N2 mo2 l nx fl c) + (min (l.length : Int) most)) > 65537)))]), (1, .box [.clo 160 [.loc 0 0, .loc 1 0, .pto [.int mo2], .loc 2 0, .loc 3 0, .loc 4 0]]), (2, .box [.int ((Cn.N2 mo2 l nx fl c) + (i : Int))]), (3, .box [.clo 158 [.loc 5 0]]), (4, .box [.clo 159 []]), (5, .box [.row 233]), (233, .row 22 (.intss (((Cn.C2 mo2 l nx fl c) ++ Cn.q3c (Cn.O1 mo2 l nx fl c) (Cn.O2 mo2 l nx fl c) (Cn.q0f (Cn.N2 mo2 l nx fl c) (Cn.MN most l)) j) ++ Cn.q4k (Cn.O1 mo2 l nx fl c) (Cn.O2 mo2 l nx fl c) (Cn.q0f (Cn.N2 mo2 l nx fl c) (Cn.MN most l)) j x0)))])) (fun x0 => (Cn.O2 mo2 l nx fl c).length + 1 - x0) (0) ?_ (Ex 74 (congrArg AV.int (show 0 = (0 : Int) from (by first | rfl | omega | (simp; done)))) Eb) (Hx 233 (congrArg (fun x => q0d.row 22 (.intss x)) (show ((Cn.C2 mo2 l nx fl c) ++ Cn.q3c (Cn.O1 mo2 l nx fl c) (Cn.O2 mo2 l nx fl c) (Cn.q0f (Cn.N2 mo2 l nx fl c) (Cn.MN most l)) j) = (((Cn.C2 mo2 l nx fl c) ++ Cn.q3c (Cn.O1 mo2 l nx fl c) (Cn.O2 mo2 l nx fl c) (Cn.q0f (Cn.N2 mo2 l nx fl c) (Cn.MN most l)) j) ++ Cn.q4k (Cn.O1 mo2 l nx fl c) (Cn.O2 mo2 l nx fl c) (Cn.q0f (Cn.N2 mo2 l nx fl c) (Cn.MN most l)) j 0) from (by exact (List.append_nil _).symm))) Hb) fun k hI => ?_)))))))
        ·
         refine ap ?_ az
         omega
        ·
         show 0 ≤ (Cn.O2 mo2 l nx fl c).length + 1
         omega
        ·
         try dsimp only at hI
         have hkk := hI
         have hcl := Cn.x8t (a := (Cn.O1 mo2 l nx fl c)) (b := (Cn.O2 mo2 l nx fl c)) (o := (Cn.q0f (Cn.N2 mo2 l nx fl c) (Cn.MN most l))) (c := (Cn.C2 mo2 l nx fl c)) (j := j) (k := k) (by omega) (by omega) (by omega)
         refine Sz hcx [] [75] [] [] (Zs (Zj (p := ((k : Int) < (((Cn.O2 mo2 l nx fl c).length : Int) + 1))) (fun h4 => ?_) fun h4 => ?_))
         ·
          refine Zk (Ft (Zs (Zb (Sz hcx [] [16] [75] [] (Zs (Sq hcx [] [17] [] [] [Fit ((j : Int) + (k : Int))] ?_ (Sq hcx [] [86] [] [] [((decide (((j : Int) + (k : Int)) > 0)) = true → ((decide (((j : Int) + (k : Int)) > 0)) = true)), ((decide (((j : Int) + (k : Int)) > 0)) = true → ((decide (((j : Int) + (k : Int)) > 0)) = true)), ((decide (((j : Int) + (k : Int)) > 0)) = true → (decide (((j : Int) + (k : Int)) > 0)) = true)] ?_ (Zi (b := (decide (((j : Int) + (k : Int)) > 0)) && (decide (((j : Int) + (k : Int)) ≤ (min (l.length : Int) most)))) (fun h5 => ?_) fun h5 => ?_))))))))
          ·
           refine ap ?_ az
           omega
          ·
           refine ap ?_ (ap ?_ (ap (by exact id) az)) <;>
            exact id
          ·
           have hu := Cn.k9p (a := (Cn.O1 mo2 l nx fl c)) (b := (Cn.O2 mo2 l nx fl c)) hol h5
           refine Td hcx hmx [0, 0, 0, 0, 8, 28, 62, 0, 0, 0, 512, 1918, 4094, 0, 0, 16384, 65534, 131070, 262143] [(5, .to 5), (1018, .to 233)] [] [86, 17] [233] [Fit ((j : Int) - 1), ((Cn.O1 mo2 l nx fl c).length ≤ maxLen ∧ Fit ((j : Int) - 1)), ((Cn.at1 (Cn.O1 mo2 l nx fl c) ((j : Int) - 1)).length ≤ maxLen ∧ ∀ x ∈ (Cn.at1 (Cn.O1 mo2 l nx fl c) ((j : Int) - 1)), -70000 ≤ x ∧ x ≤ 70000), Fit ((k : Int) - 1), ((Cn.O2 mo2 l nx fl c).length ≤ maxLen ∧ Fit ((k : Int) - 1)), ((Cn.at1 (Cn.O2 mo2 l nx fl c) ((k : Int) - 1)).length ≤ maxLen ∧ ∀ x ∈ (Cn.at1 (Cn.O2 mo2 l nx fl c) ((k : Int) - 1)), -70000 ≤ x ∧ x ≤ 70000), Fit (((j : Int) + (k : Int)) - 1), ((Cn.q0f (Cn.N2 mo2 l nx fl c) (Cn.MN most l)).length ≤ maxLen ∧ Fit (((j : Int) + (k : Int)) - 1)), ([(Cn.q6f (Cn.at1 (Cn.O1 mo2 l nx fl c) ((j : Int) - 1))), (Cn.q6f (Cn.at1 (Cn.O2 mo2 l nx fl c) ((k : Int) - 1))), (Cn.at1 (Cn.q0f (Cn.N2 mo2 l nx fl c) (Cn.MN most l)) (((j : Int) + (k : Int)) - 1))].length ≤ 3 ∧ (∀ x ∈ [(Cn.q6f (Cn.at1 (Cn.O1 mo2 l nx fl c) ((j : Int) - 1))), (Cn.q6f (Cn.at1 (Cn.O2 mo2 l nx fl c) ((k : Int) - 1))), (Cn.at1 (Cn.q0f (Cn.N2 mo2 l nx fl c) (Cn.MN most l)) (((j : Int) + (k : Int)) - 1))], x.length ≤ 3) ∧ (((Cn.C2 mo2 l nx fl c) ++ Cn.q3c (Cn.O1 mo2 l nx fl c) (Cn.O2 mo2 l nx fl c) (Cn.q0f (Cn.N2 mo2 l nx fl c) (Cn.MN most l)) j) ++ Cn.q4k (Cn.O1 mo2 l nx fl c) (Cn.O2 mo2 l nx fl c) (Cn.q0f (Cn.N2 mo2 l nx fl c) (Cn.MN most l)) j k).length ≤ 1000000000000)] ?_ (Ft (Sq hcx [] [18] [] [] [Fit ((j : Int) + (k : Int))] ?_ (Sz hcx [] [111] [] [] (Zj (p := (((j : Int) + (k : Int)) < (min (l.length : Int) most))) (fun h6 => ?_) fun h6 => ?_))))
           ·
            refine ap ?_ (ap ?_ (ap ?_ (ap ?_ (ap ?_ (ap ?_ (ap ?_ (ap ?_ (ap ?_ az)))))))) <;>
             first | omega | exact ⟨by unfold maxLen; omega, by constructor <;> omega⟩ | exact ⟨Nat.le_trans (Cn.at_len _ _) (by decide), fun x hx => by have h8 := a2 x (Cn.at_mem hx); omega⟩ | exact ⟨Nat.le_trans (Cn.at_len _ _) (by decide), fun x hx => by have h8 := b2 x (Cn.at_mem hx); omega⟩ | exact ⟨Nat.le_refl 3, Cn.j7p (Cn.q8x _) (Cn.q8x _) (Cn.at_len _ _), by omega⟩
           ·
            refine ap ?_ az
            omega
           ·
            have hd := Cn.k8k (a := (Cn.O1 mo2 l nx fl c)) (b := (Cn.O2 mo2 l nx fl c)) hol h6
            refine Td hcx hmx [0, 0, 0, 6, 0, 0, 62, 0, 0, 0, 894, 2046, 4094, 8191] [(5, .to 5), (1013, .to 233)] [] [111, 18, 16] [233] [((Cn.O1 mo2 l nx fl c).length ≤ maxLen ∧ Fit (j : Int)), ((Cn.O2 mo2 l nx fl c).length ≤ maxLen ∧ Fit (k : Int)), ((Cn.q0f (Cn.N2 mo2 l nx fl c) (Cn.MN most l)).length ≤ maxLen ∧ Fit ((j : Int) + (k : Int))), ((Cn.at1 (Cn.q0f (Cn.N2 mo2 l nx fl c) (Cn.MN most l)) ((j : Int) + (k : Int))).length ≤ maxLen ∧ ∀ x ∈ (Cn.at1 (Cn.q0f (Cn.N2 mo2 l nx fl c) (Cn.MN most l)) ((j : Int) + (k : Int))), -70000 ≤ x ∧ x ≤ 70000), ([(Cn.at1 (Cn.O1 mo2 l nx fl c) (j : Int)), (Cn.at1 (Cn.O2 mo2 l nx fl c) (k : Int)), (Cn.q6f (Cn.at1 (Cn.q0f (Cn.N2 mo2 l nx fl c) (Cn.MN most l)) ((j : Int) + (k : Int))))].length ≤ 3 ∧ (∀ x ∈ [(Cn.at1 (Cn.O1 mo2 l nx fl c) (j : Int)), (Cn.at1 (Cn.O2 mo2 l nx fl c) (k : Int)), (Cn.q6f (Cn.at1 (Cn.q0f (Cn.N2 mo2 l nx fl c) (Cn.MN most l)) ((j : Int) + (k : Int))))], x.length ≤ 3) ∧ ((((Cn.C2 mo2 l nx fl c) ++ Cn.q3c (Cn.O1 mo2 l nx fl c) (Cn.O2 mo2 l nx fl c) (Cn.q0f (Cn.N2 mo2 l nx fl c) (Cn.MN most l)) j) ++ Cn.q4k (Cn.O1 mo2 l nx fl c) (Cn.O2 mo2 l nx fl c) (Cn.q0f (Cn.N2 mo2 l nx fl c) (Cn.MN most l)) j k) ++ [[(Cn.q6f (Cn.at1 (Cn.O1 mo2 l nx fl c) ((j : Int) - 1))), (Cn.q6f (Cn.at1 (Cn.O2 mo2 l nx fl c) ((k : Int) - 1))), (Cn.at1 (Cn.q0f (Cn.N2 mo2 l nx fl c) (Cn.MN most l)) (((j : Int) + (k : Int)) - 1))].flatten]).length ≤ 1000000000000)] ?_ (Fb (Ft (Tq hcx [] [74] [] [] [Fit ((k : Int) + 1)] ?_ (Fn [(0, .to 0), (1, .to 1), (2, .to 2), (3, .to 3), (4, .to 4), (5, .to 5), (233, .to 233)] [5, 6, 10, 11, 12, 13, 15, 67, 68, 73, 74] (Lr (k + 1) ?_ ?_ (Ex 74 (congrArg AV.int (show ((k : Int) + 1) = ((k + 1) : Int) from (by first | rfl | omega | (simp; done)))) Eb) (Hx 233 (congrArg (fun x => q0d.row 22 (.intss x)) (show (((((Cn.C2 mo2 l nx fl c) ++ Cn.q3c (Cn.O1 mo2 l nx fl c) (Cn.O2 mo2 l nx fl c) (Cn.q0f (Cn.N2 mo2 l nx fl c) (Cn.MN most l)) j) ++ Cn.q4k (Cn.O1 mo2 l nx fl c) (Cn.O2 mo2 l nx fl c) (Cn.q0f (Cn.N2 mo2 l nx fl c) (Cn.MN most l)) j k) ++ [[(Cn.q6f (Cn.at1 (Cn.O1 mo2 l nx fl c) ((j : Int) - 1))), (Cn.q6f (Cn.at1 (Cn.O2 mo2 l nx fl c) ((k : Int) - 1))), (Cn.at1 (Cn.q0f (Cn.N2 mo2 l nx fl c) (Cn.MN most l)) (((j : Int) + (k : Int)) - 1))].flatten]) ++ [[(Cn.at1 (Cn.O1 mo2 l nx fl c) (j : Int)), (Cn.at1 (Cn.O2 mo2 l nx fl c) (k : Int)), (Cn.q6f (Cn.at1 (Cn.q0f (Cn.N2 mo2 l nx fl c) (Cn.MN most l)) ((j : Int) + (k : Int))))].flatten]) = (((Cn.C2 mo2 l nx fl c) ++ Cn.q3c (Cn.O1 mo2 l nx fl c) (Cn.O2 mo2 l nx fl c) (Cn.q0f (Cn.N2 mo2 l nx fl c) (Cn.MN most l)) j) ++ Cn.q4k (Cn.O1 mo2 l nx fl c) (Cn.O2 mo2 l nx fl c) (Cn.q0f (Cn.N2 mo2 l nx fl c) (Cn.MN most l)) j (k + 1)) from (by first | exact Cn.x7z hu hd | exact Cn.k5l hu hd | exact Cn.k5s hu hd | exact Cn.k5u hu hd))) Hb))))))
            ·
             refine ap ?_ (ap ?_ (ap ?_ (ap ?_ (ap ?_ az)))) <;>
              first | exact ⟨by unfold maxLen; omega, by constructor <;> omega⟩ | exact ⟨Nat.le_trans (Cn.at_len _ _) (by decide), fun x hx => by have h8 := hob x (Cn.at_mem hx); omega⟩ | exact ⟨Nat.le_refl 3, Cn.j7p (Cn.at_len _ _) (Cn.at_len _ _) (Cn.q8x _), by rw [List.length_append]; show _ + 1 ≤ _; omega⟩
            ·
             refine ap ?_ az
             omega
            ·
             try dsimp only
             omega
            ·
             try dsimp only
             omega
           ·
            have hd := Cn.k8h (a := (Cn.O1 mo2 l nx fl c)) (b := (Cn.O2 mo2 l nx fl c)) hol h6
            refine Zk (Fb (Ft (Tq hcx [] [74] [111, 18, 16] [] [Fit ((k : Int) + 1)] ?_ (Fn [(0, .to 0), (1, .to 1), (2, .to 2), (3, .to 3), (4, .to 4), (5, .to 5), (233, .to 233)] [5, 6, 10, 11, 12, 13, 15, 67, 68, 73, 74] (Lr (k + 1) ?_ ?_ (Ex 74 (congrArg AV.int (show ((k : Int) + 1) = ((k + 1) : Int) from (by first | rfl | omega | (simp; done)))) Eb) (Hx 233 (congrArg (fun x => q0d.row 22 (.intss x)) (show ((((Cn.C2 mo2 l nx fl c) ++ Cn.q3c (Cn.O1 mo2 l nx fl c) (Cn.O2 mo2 l nx fl c) (Cn.q0f (Cn.N2 mo2 l nx fl c) (Cn.MN most l)) j) ++ Cn.q4k (Cn.O1 mo2 l nx fl c) (Cn.O2 mo2 l nx fl c) (Cn.q0f (Cn.N2 mo2 l nx fl c) (Cn.MN most l)) j k) ++ [[(Cn.q6f (Cn.at1 (Cn.O1 mo2 l nx fl c) ((j : Int) - 1))), (Cn.q6f (Cn.at1 (Cn.O2 mo2 l nx fl c) ((k : Int) - 1))), (Cn.at1 (Cn.q0f (Cn.N2 mo2 l nx fl c) (Cn.MN most l)) (((j : Int) + (k : Int)) - 1))].flatten]) = (((Cn.C2 mo2 l nx fl c) ++ Cn.q3c (Cn.O1 mo2 l nx fl c) (Cn.O2 mo2 l nx fl c) (Cn.q0f (Cn.N2 mo2 l nx fl c) (Cn.MN most l)) j) ++ Cn.q4k (Cn.O1 mo2 l nx fl c) (Cn.O2 mo2 l nx fl c) (Cn.q0f (Cn.N2 mo2 l nx fl c) (Cn.MN most l)) j (k + 1)) from (by first | exact Cn.x7z hu hd | exact Cn.k5l hu hd | exact Cn.k5s hu hd | exact Cn.k5u hu hd))) Hb))))))
            ·
             refine ap ?_ az
             omega
            ·
             try dsimp only
             omega
            ·
             try dsimp only
             omega
          ·
           have hu := Cn.k9n (a := (Cn.O1 mo2 l nx fl c)) (b := (Cn.O2 mo2 l nx fl c)) hol h5
           refine Zk (Ft (Sq hcx [] [18] [86, 17] [] [Fit ((j : Int) + (k : Int))] ?_ (Sz hcx [] [111] [] [] (Zj (p := (((j : Int) + (k : Int)) < (min (l.length : Int) most))) (fun h7 => ?_) fun h7 => ?_))))
           ·
            refine ap ?_ az
            omega
           ·
            have hd := Cn.k8k (a := (Cn.O1 mo2 l nx fl c)) (b := (Cn.O2 mo2 l nx fl c)) hol h7
            refine Td hcx hmx [0, 0, 0, 6, 0, 0, 62, 0, 0, 0, 894, 2046, 4094, 8191] [(5, .to 5), (1013, .to 233)] [] [111, 18, 16] [233] [((Cn.O1 mo2 l nx fl c).length ≤ maxLen ∧ Fit (j : Int)), ((Cn.O2 mo2 l nx fl c).length ≤ maxLen ∧ Fit (k : Int)), ((Cn.q0f (Cn.N2 mo2 l nx fl c) (Cn.MN most l)).length ≤ maxLen ∧ Fit ((j : Int) + (k : Int))), ((Cn.at1 (Cn.q0f (Cn.N2 mo2 l nx fl c) (Cn.MN most l)) ((j : Int) + (k : Int))).length ≤ maxLen ∧ ∀ x ∈ (Cn.at1 (Cn.q0f (Cn.N2 mo2 l nx fl c) (Cn.MN most l)) ((j : Int) + (k : Int))), -70000 ≤ x ∧ x ≤ 70000), ([(Cn.at1 (Cn.O1 mo2 l nx fl c) (j : Int)), (Cn.at1 (Cn.O2 mo2 l nx fl c) (k : Int)), (Cn.q6f (Cn.at1 (Cn.q0f (Cn.N2 mo2 l nx fl c) (Cn.MN most l)) ((j : Int) + (k : Int))))].length ≤ 3 ∧ (∀ x ∈ [(Cn.at1 (Cn.O1 mo2 l nx fl c) (j : Int)), (Cn.at1 (Cn.O2 mo2 l nx fl c) (k : Int)), (Cn.q6f (Cn.at1 (Cn.q0f (Cn.N2 mo2 l nx fl c) (Cn.MN most l)) ((j : Int) + (k : Int))))], x.length ≤ 3) ∧ (((Cn.C2 mo2 l nx fl c) ++ Cn.q3c (Cn.O1 mo2 l nx fl c) (Cn.O2 mo2 l nx fl c) (Cn.q0f (Cn.N2 mo2 l nx fl c) (Cn.MN most l)) j) ++ Cn.q4k (Cn.O1 mo2 l nx fl c) (Cn.O2 mo2 l nx fl c) (Cn.q0f (Cn.N2 mo2 l nx fl c) (Cn.MN most l)) j k).length ≤ 1000000000000)] ?_ (Fb (Ft (Tq hcx [] [74] [] [] [Fit ((k : Int) + 1)] ?_ (Fn [(0, .to 0), (1, .to 1), (2, .to 2), (3, .to 3), (4, .to 4), (5, .to 5), (233, .to 233)] [5, 6, 10, 11, 12, 13, 15, 67, 68, 73, 74] (Lr (k + 1) ?_ ?_ (Ex 74 (congrArg AV.int (show ((k : Int) + 1) = ((k + 1) : Int) from (by first | rfl | omega | (simp; done)))) Eb) (Hx 233 (congrArg (fun x => q0d.row 22 (.intss x)) (show ((((Cn.C2 mo2 l nx fl c) ++ Cn.q3c (Cn.O1 mo2 l nx fl c) (Cn.O2 mo2 l nx fl c) (Cn.q0f (Cn.N2 mo2 l nx fl c) (Cn.MN most l)) j) ++ Cn.q4k (Cn.O1 mo2 l nx fl c) (Cn.O2 mo2 l nx fl c) (Cn.q0f (Cn.N2 mo2 l nx fl c) (Cn.MN most l)) j k) ++ [[(Cn.at1 (Cn.O1 mo2 l nx fl c) (j : Int)), (Cn.at1 (Cn.O2 mo2 l nx fl c) (k : Int)), (Cn.q6f (Cn.at1 (Cn.q0f (Cn.N2 mo2 l nx fl c) (Cn.MN most l)) ((j : Int) + (k : Int))))].flatten]) = (((Cn.C2 mo2 l nx fl c) ++ Cn.q3c (Cn.O1 mo2 l nx fl c) (Cn.O2 mo2 l nx fl c) (Cn.q0f (Cn.N2 mo2 l nx fl c) (Cn.MN most l)) j) ++ Cn.q4k (Cn.O1 mo2 l nx fl c) (Cn.O2 mo2 l nx fl c) (Cn.q0f (Cn.N2 mo2 l nx fl c) (Cn.MN most l)) j (k + 1)) from (by first | exact Cn.x7z hu hd | exact Cn.k5l hu hd | exact Cn.k5s hu hd | exact Cn.k5u hu hd))) Hb))))))
            ·
             refine ap ?_ (ap ?_ (ap ?_ (ap ?_ (ap ?_ az)))) <;>
              first | exact ⟨by unfold maxLen; omega, by constructor <;> omega⟩ | exact ⟨Nat.le_trans (Cn.at_len _ _) (by decide), fun x hx => by have h8 := hob x (Cn.at_mem hx); omega⟩ | exact ⟨Nat.le_refl 3, Cn.j7p (Cn.at_len _ _) (Cn.at_len _ _) (Cn.q8x _), by omega⟩
            ·
             refine ap ?_ az
             omega
            ·
             try dsimp only
             omega
            ·
             try dsimp only
             omega
           ·
            have hd := Cn.k8h (a := (Cn.O1 mo2 l nx fl c)) (b := (Cn.O2 mo2 l nx fl c)) hol h7
            refine Zk (Fb (Ft (Tq hcx [] [74] [111, 18, 16] [] [Fit ((k : Int) + 1)] ?_ (Lr (k + 1) ?_ ?_ (Ex 74 (congrArg AV.int (show ((k : Int) + 1) = ((k + 1) : Int) from (by first | rfl | omega | (simp; done)))) Eb) (Hx 233 (congrArg (fun x => q0d.row 22 (.intss x)) (show (((Cn.C2 mo2 l nx fl c) ++ Cn.q3c (Cn.O1 mo2 l nx fl c) (Cn.O2 mo2 l nx fl c) (Cn.q0f (Cn.N2 mo2 l nx fl c) (Cn.MN most l)) j) ++ Cn.q4k (Cn.O1 mo2 l nx fl c) (Cn.O2 mo2 l nx fl c) (Cn.q0f (Cn.N2 mo2 l nx fl c) (Cn.MN most l)) j k) = (((Cn.C2 mo2 l nx fl c) ++ Cn.q3c (Cn.O1 mo2 l nx fl c) (Cn.O2 mo2 l nx fl c) (Cn.q0f (Cn.N2 mo2 l nx fl c) (Cn.MN most l)) j) ++ Cn.q4k (Cn.O1 mo2 l nx fl c) (Cn.O2 mo2 l nx fl c) (Cn.q0f (Cn.N2 mo2 l nx fl c) (Cn.MN most l)) j (k + 1)) from (by first | exact Cn.x7z hu hd | exact Cn.k5l hu hd | exact Cn.k5s hu hd | exact Cn.k5u hu hd))) Hb)))))
            ·
             refine ap ?_ az
             omega
            ·
             try dsimp only
             omega
            ·
             try dsimp only
             omega
         ·
          have h75 := h4
          refine Ze (Fe (Fe (Fs (Fb (Ft (Tq hcx [] [68] [75, 15, 73, 74] [] [Fit ((j : Int) + 1)] ?_ (Lr (j + 1) ?_ ?_ (Ex 68 (congrArg AV.int (show ((j : Int) + 1) = ((j + 1) : Int) from (by first | rfl | omega | (simp; done)))) Eb) (Hx 233 (congrArg (fun x => q0d.row 22 (.intss x)) (show (((Cn.C2 mo2 l nx fl c) ++ Cn.q3c (Cn.O1 mo2 l nx fl c) (Cn.O2 mo2 l nx fl c) (Cn.q0f (Cn.N2 mo2 l nx fl c) (Cn.MN most l)) j) ++ Cn.q4k (Cn.O1 mo2 l nx fl c) (Cn.O2 mo2 l nx fl c) (Cn.q0f (Cn.N2 mo2 l nx fl c) (Cn.MN most l)) j k) = ((Cn.C2 mo2 l nx fl c) ++ Cn.q3c (Cn.O1 mo2 l nx fl c) (Cn.O2 mo2 l nx fl c) (Cn.q0f (Cn.N2 mo2 l nx fl c) (Cn.MN most l)) (j + 1)) from (by exact Cn.k6x (by omega)))) Hb))))))))
          ·
           refine ap ?_ az
           omega
          ·
           try dsimp only
           omega
          ·
           try dsimp only
           omega
       ·
        have h69 := h3
        exact Ze (Fe (Fe (Fs (Ft (Sz hcx [] [8] [69, 5, 6, 10, 11, 12, 13, 67, 68] [] (Zr (Fn [(0, .to 0), (1, .to 1), (2, .to 2), (3, .to 3), (4, .to 4), (5, .to 5), (233, .to 7)] [8] (Rv hcx (congrArg AV.ints (show (Cn.q0f (Cn.N2 mo2 l nx fl c) (Cn.MN most l)) = (Cn.z5u most l nx fl c) from (by exact e1.symm))) [true, true, true, true, true, true, false, true] (q0r (congrArg some (congrArg q0d.box (q0c (congrArg AV.bool (show ((Cn.B2 mo2 l nx fl c) || (decide (((Cn.N2 mo2 l nx fl c) + (min (l.length : Int) most)) > 65537))) = (Cn.z3f most l nx fl c) from (by (rw [e3]; exact hf)))) rfl))) (q0r rfl (q0r (congrArg some (congrArg q0d.box (q0c (congrArg AV.int (show ((Cn.N2 mo2 l nx fl c) + (i : Int)) = (Cn.z5v most l nx fl c) from (by (rw [e2]; omega)))) rfl))) (q0r rfl (q0r rfl (q0r rfl (q0r rfl (q0r (congrArg some (congrArg (fun x => q0d.row 22 (.intss x)) (show ((Cn.C2 mo2 l nx fl c) ++ Cn.q3c (Cn.O1 mo2 l nx fl c) (Cn.O2 mo2 l nx fl c) (Cn.q0f (Cn.N2 mo2 l nx fl c) (Cn.MN most l)) j) = (Cn.z8s most l nx fl c) from (by (rw [e4, show j = (Cn.O1 mo2 l nx fl c).length + 1 by omega]))))) rfl))))))))))))))))
 ·
  cases hσ
theorem x2n : ∀ nn, q0o Tryz.prog 160 (z4j nn) := q9q (z0q (fn := Tryz.f160) Tryz.func160 (by kernel_rfl) rfl (fun args os p r outs hσ hp => by
 unfold z4j at hσ
 split at hσ
 · simp only [Option.some.injEq, Prod.mk.injEq] at hσ
   obtain ⟨rfl, rfl, rfl⟩ := hσ
   exact absurd hp.2.2.2.2.2.2.2.2.2 (Nat.not_lt_zero _)
 · cases hσ)) y7h
def y9h : CtF
 | [.im (.ls (.ints l)), .loc 0 0, .loc 1 0, .pto [.val (.int .i64 most)], .loc 2 0, .loc 3 0, .loc 4 0], [.box [.im (.val (.bool fl))], .box [.clo 160 [.loc 0 0, .loc 1 0, .pto [.val (.int .i64 mo2)], .loc 2 0, .loc 3 0, .loc 4 0]], .box [.im (.val (.int .i64 nx))], .box [.clo 158 [.loc 5 0]], .box [.clo 159 []], .box [.row 6], .row 22 (.intss c)] => some (1 ≤ l.length ∧ l.length ≤ 4096 ∧ (∀ x ∈ l, -65537 ≤ x ∧ x ≤ 65537) ∧ 0 ≤ most ∧ most ≤ 1099511627776 ∧ 1 ≤ nx ∧ nx ≤ 65537 ∧ mo2 = most ∧ c.length + 8 * (l.length * l.length) ≤ 1000000000, .ints (Cn.z5u most l nx fl c), [some (.box [.bool (Cn.z3f most l nx fl c)]), some (.box [.clo 160 [.loc 0 0, .loc 1 0, .pto [.int mo2], .loc 2 0, .loc 3 0, .loc 4 0]]), some (.box [.int (Cn.z5v most l nx fl c)]), some (.box [.clo 158 [.loc 5 0]]), some (.box [.clo 159 []]), some (.box [.row 7]), none, some (.row 22 (.intss (Cn.z8s most l nx fl c)))])
 | _, _ => none
theorem y3t : q0o Tryz.prog 160 y9h := z5h x2n (fun args os p r outs hσ hp => by
 unfold y9h at hσ
 split at hσ
 · rename_i l most fl mo2 nx c
   simp only [Option.some.injEq, Prod.mk.injEq] at hσ
   obtain ⟨rfl, rfl, rfl⟩ := hσ
   exact ⟨l.length + 1, _, rfl, (by obtain ⟨p1, p2, p3, p4, p5, p6, p7, p8, p9⟩ := hp; exact ⟨p1, p2, p3, p4, p5, p6, p7, p8, p9, Nat.lt_succ_self _⟩)⟩
 · cases hσ)
def y7b : Cx := ⟨j7d, [(157, (q2g [.ld (.ints []), .id] z2r)), (160, (q2g [.ld (.ints []), .id, .id, .id, .id, .id, .id] y9h))], true⟩
theorem y4k : q1g Tryz.prog y7b := q1b q7d ⟨(z1n.coe [.ld (.ints []), .id] rfl), (y3t.coe [.ld (.ints []), .id, .id, .id, .id, .id, .id] rfl), trivial⟩
def y7g : CtF
 | [.im (.ls (.ints l)), .im (.val (.int .i64 most)), .im (.val (.int .i64 next))], [] => some (l.length ≤ maxLen ∧ (∀ x ∈ l, -65537 ≤ x ∧ x ≤ 65537) ∧ Fit most ∧ Fit next, .tup [.ints ((Cn.q1w most l next).1), .row 0, .int ((Cn.q1w most l next).2.2.1), .int ((Cn.q1w most l next).2.2.2)], [some (.row 22 (.intss ((Cn.q1w most l next).2.1)))])
 | _, _ => none
set_option maxRecDepth 20000 in
set_option maxHeartbeats 4000000 in
theorem y3i : q0o Tryz.prog 129 y7g := by
 refine Sw (cx := y7b) Tryz.f129 Tryz.func129 ?_
 intro wW wO wβ G0 args os p r outs hσ hp
 have hcx := y4k
 have hmx : Tryz.prog.follows .mixedOrders = true := by kernel_rfl
 unfold y7g at hσ
 split at hσ
 ·
  rename_i l most next
  cases hσ
  refine ⟨by kernel_rfl, ?_⟩
  obtain ⟨hm1, hlb, hf1, hf2⟩ := hp
  have hm2 := hm1
  unfold maxLen at hm2
  have hlb2 : ∀ x ∈ l, -70000 ≤ x ∧ x ≤ 70000 := fun x hx => by have := hlb x hx; omega
  refine Sz hcx [(1001, .to 605), (1003, .to 607), (1000, .frz)] [4, 5, 7] [1, 2] [] (Zs (Zb ?_))
  refine q4l (X := Unit) (fun _ => True) (fun _ => [(4, .pto [.int most]), (5, .loc 605 0), (7, .loc 607 0), (0, .ints l), (14, .bool (bif (decide (next < 1)) then (decide (next < 1)) else (bif (decide (next > 65537)) then (decide (next > 65537)) else (bif (decide (most < 0)) then (decide (most < 0)) else (bif (decide (most > 1099511627776)) then (decide (most > 1099511627776)) else (decide ((l.length : Int) > 4096)))))))]) (fun _ => [(605, .box [.int next]), (607, .box [.im (.val (.slice none 0 0))])]) ?_ (fun _ _ => ?_)
  ·
   refine Sz hcx [] [14] [] [] (Zi (b := decide (next < 1)) (fun hb0 => ?_) fun hb0 => ?_)
   ·
    have h0 := hb0
    try have hr := Cn.z1q (most := most) (l := l) (next := next) h0
    refine Zk ?_
    refine q1m () trivial ?_ ?_
    ·
     exact Ex 14 (congrArg AV.bool (show (decide (next < 1)) = (bif (decide (next < 1)) then (decide (next < 1)) else (bif (decide (next > 65537)) then (decide (next > 65537)) else (bif (decide (most < 0)) then (decide (most < 0)) else (bif (decide (most > 1099511627776)) then (decide (most > 1099511627776)) else (decide ((l.length : Int) > 4096)))))) from (by simp only [hb0, cond_true, cond_false]))) Eb
    ·
     kernel_rfl
   ·
    have h0 := hb0
    try have hg := Cn.z9l (most := most) (l := l) (next := next) h0
    try obtain ⟨g1, g2, g3, g4, g5⟩ := hg.2
    refine Sz hcx [] [14] [] [] (Zi (b := decide (next > 65537)) (fun hb1 => ?_) fun hb1 => ?_)
    ·
     have h1 := hb1
     try have hr := Cn.z1q (most := most) (l := l) (next := next) h1
     refine Zk ?_
     refine q1m () trivial ?_ ?_
     ·
      exact Ex 14 (congrArg AV.bool (show (decide (next > 65537)) = (bif (decide (next < 1)) then (decide (next < 1)) else (bif (decide (next > 65537)) then (decide (next > 65537)) else (bif (decide (most < 0)) then (decide (most < 0)) else (bif (decide (most > 1099511627776)) then (decide (most > 1099511627776)) else (decide ((l.length : Int) > 4096)))))) from (by simp only [hb0, hb1, cond_true, cond_false]))) Eb
     ·
      kernel_rfl
    ·
     have h1 := hb1
     try have hg := Cn.z9l (most := most) (l := l) (next := next) h1
     try obtain ⟨g1, g2, g3, g4, g5⟩ := hg.2
     refine Sz hcx [] [14] [] [] (Zi (b := decide (most < 0)) (fun hb2 => ?_) fun hb2 => ?_)
     ·
      have h2 := hb2
      try have hr := Cn.z1q (most := most) (l := l) (next := next) h2
      refine Zk ?_
      refine q1m () trivial ?_ ?_
      ·
       exact Ex 14 (congrArg AV.bool (show (decide (most < 0)) = (bif (decide (next < 1)) then (decide (next < 1)) else (bif (decide (next > 65537)) then (decide (next > 65537)) else (bif (decide (most < 0)) then (decide (most < 0)) else (bif (decide (most > 1099511627776)) then (decide (most > 1099511627776)) else (decide ((l.length : Int) > 4096)))))) from (by simp only [hb0, hb1, hb2, cond_true, cond_false]))) Eb
      ·
       kernel_rfl
     ·
      have h2 := hb2
      try have hg := Cn.z9l (most := most) (l := l) (next := next) h2
      try obtain ⟨g1, g2, g3, g4, g5⟩ := hg.2
      refine Sz hcx [] [14] [] [] (Zi (b := decide (most > 1099511627776)) (fun hb3 => ?_) fun hb3 => ?_)
      ·
       have h3 := hb3
       try have hr := Cn.z1q (most := most) (l := l) (next := next) h3
       refine Zk ?_
       refine q1m () trivial ?_ ?_
       ·
        exact Ex 14 (congrArg AV.bool (show (decide (most > 1099511627776)) = (bif (decide (next < 1)) then (decide (next < 1)) else (bif (decide (next > 65537)) then (decide (next > 65537)) else (bif (decide (most < 0)) then (decide (most < 0)) else (bif (decide (most > 1099511627776)) then (decide (most > 1099511627776)) else (decide ((l.length : Int) > 4096)))))) from (by simp only [hb0, hb1, hb2, hb3, cond_true, cond_false]))) Eb
       ·
        kernel_rfl
      ·
       have h3 := hb3
       try have hg := Cn.z9l (most := most) (l := l) (next := next) h3
       try obtain ⟨g1, g2, g3, g4, g5⟩ := hg.2
       refine Tz hcx [] [14] [] [] ?_
       refine q1m () trivial ?_ ?_
       ·
        exact Ex 14 (congrArg AV.bool (show (decide ((l.length : Int) > 4096)) = (bif (decide (next < 1)) then (decide (next < 1)) else (bif (decide (next > 65537)) then (decide (next > 65537)) else (bif (decide (most < 0)) then (decide (most < 0)) else (bif (decide (most > 1099511627776)) then (decide (most > 1099511627776)) else (decide ((l.length : Int) > 4096)))))) from (by simp only [hb0, hb1, hb2, hb3, cond_true, cond_false]))) Eb
       ·
        kernel_rfl
  refine Zt (Zi (b := bif (decide (next < 1)) then (decide (next < 1)) else (bif (decide (next > 65537)) then (decide (next > 65537)) else (bif (decide (most < 0)) then (decide (most < 0)) else (bif (decide (most > 1099511627776)) then (decide (most > 1099511627776)) else (decide ((l.length : Int) > 4096)))))) (fun h4 => ?_) fun h4 => ?_)
  ·
   try have hr := Cn.z1q (most := most) (l := l) (next := next) h4
   exact Sz hcx [(607, .to 607)] [6, 8, 9] [4, 5, 0, 14] [605] (Zr (Fk (Fr (Fp 6 (.ints []) (Fv 607 0 700 22 (.intss []) (Fn [(700, .to 0), (607, .to 990)] [6, 7, 8, 9] (Rv hcx (congrArg AV.tup (q0c (congrArg AV.ints (show [] = (Cn.q1w most l next).1 from (by (rw [hr]; done)))) (q0c rfl (q0c (congrArg AV.int (show 0 = (Cn.q1w most l next).2.2.1 from (by (rw [hr]; done)))) (q0c (congrArg AV.int (show 1 = (Cn.q1w most l next).2.2.2 from (by (rw [hr]; done)))) rfl))))) [true] (q0r (congrArg some (congrArg (fun x => q0d.row 22 (.intss x)) (show [] = (Cn.q1w most l next).2.1 from (by (rw [hr]; done))))) rfl))))))))
  ·
   try have hg := Cn.z9l (most := most) (l := l) (next := next) h4
   try obtain ⟨g1, g2, g3, g4, g5⟩ := hg.2
   refine Sq hcx [] [26] [14] [] [(l.length ≤ maxLen ∧ (∀ x ∈ l, -70000 ≤ x ∧ x ≤ 70000))] ?_ (Zi (b := !(Cn.q2v next l)) (fun h5 => ?_) fun h5 => ?_)
   ·
    refine ap ?_ az
    exact ⟨hm1, hlb2⟩
   ·
    have hr := Cn.y1d hg (Cn.k7v h5)
    exact Sz hcx [(607, .to 607)] [6, 8, 9] [26, 4, 5, 0] [605] (Zr (Fk (Fr (Fp 6 (.ints []) (Fv 607 0 700 22 (.intss []) (Fn [(700, .to 0), (607, .to 990)] [6, 7, 8, 9] (Rv hcx (congrArg AV.tup (q0c (congrArg AV.ints (show [] = (Cn.q1w most l next).1 from (by (rw [hr]; done)))) (q0c rfl (q0c (congrArg AV.int (show 0 = (Cn.q1w most l next).2.2.1 from (by (rw [hr]; done)))) (q0c (congrArg AV.int (show 140 = (Cn.q1w most l next).2.2.2 from (by (rw [hr]; done)))) rfl))))) [true] (q0r (congrArg some (congrArg (fun x => q0d.row 22 (.intss x)) (show [] = (Cn.q1w most l next).2.1 from (by (rw [hr]; done))))) rfl))))))))
   ·
    have hap := Cn.k8u h5
    refine q4l (X := Unit) (fun _ => True) (fun _ => [(4, .pto [.int most]), (5, .loc 605 0), (7, .loc 607 0), (0, .ints l), (31, .bool (bif ((l.length : Int) == 0) then ((l.length : Int) == 0) else (most == 0)))]) (fun _ => [(605, .box [.int next]), (607, .box [.im (.val (.slice none 0 0))])]) ?_ (fun _ _ => ?_)
    ·
     refine Sz hcx [] [31] [26] [] (Zi (b := (l.length : Int) == 0) (fun hb6 => ?_) fun hb6 => ?_)
     ·
      have h6 := hb6
      try have hr := Cn.j4k hg hap h6
      refine Zk ?_
      refine q1m () trivial ?_ ?_
      ·
       exact Ex 31 (congrArg AV.bool (show ((l.length : Int) == 0) = (bif ((l.length : Int) == 0) then ((l.length : Int) == 0) else (most == 0)) from (by simp only [hb6, cond_true, cond_false]))) Eb
      ·
       kernel_rfl
     ·
      have h6 := hb6
      try have hnz := Cn.k5a h6
      refine Tz hcx [] [31] [] [] ?_
      refine q1m () trivial ?_ ?_
      ·
       exact Ex 31 (congrArg AV.bool (show (most == 0) = (bif ((l.length : Int) == 0) then ((l.length : Int) == 0) else (most == 0)) from (by simp only [hb6, cond_true, cond_false]))) Eb
      ·
       kernel_rfl
    refine Zt (Zi (b := bif ((l.length : Int) == 0) then ((l.length : Int) == 0) else (most == 0)) (fun h7 => ?_) fun h7 => ?_)
    ·
     try have hr := Cn.j4k hg hap h7
     exact Sd hcx hmx [0, 0, 2, 7, 15] [(607, .to 607)] [6, 8, 9] [4, 5, 0, 31] [605] [] az (Zr (Fk (Fr (Fp 6 (.ints []) (Fv 607 0 700 22 (.intss []) (Fn [(700, .to 0), (607, .to 990)] [6, 7, 8, 9] (Rv hcx (congrArg AV.tup (q0c (congrArg AV.ints (show [] = (Cn.q1w most l next).1 from (by (rw [hr]; done)))) (q0c rfl (q0c (congrArg AV.int (show next = (Cn.q1w most l next).2.2.1 from (by (rw [hr]; done)))) (q0c (congrArg AV.int (show 0 = (Cn.q1w most l next).2.2.2 from (by (rw [hr]; done)))) rfl))))) [true] (q0r (congrArg some (congrArg (fun x => q0d.row 22 (.intss x)) (show [] = (Cn.q1w most l next).2.1 from (by (rw [hr]; done))))) rfl))))))))
    ·
     try have hnz := Cn.k5a h7
     refine Zk (Fb (Ft (Zs (Zv 607 0 701 22 (.intss []) (Tz hcx [(1001, .to 610)] [10] [31] [] (Ft (Sz hcx [(1000, .to 611)] [11] [] [] (Sz hcx [(1000, .to 612)] [12] [] [] (Sz hcx [(1000, .to 613)] [13] [] [] (Sz hcx [(613, .to 613)] [] [11, 10, 4] [] (Sq hcx [(605, .to 605), (607, .to 607), (612, .to 612), (1002, .to 701)] [6] [13, 0] [613, 611, 610, 701] [(1 ≤ l.length ∧ l.length ≤ 4096 ∧ (∀ x ∈ l, -65537 ≤ x ∧ x ≤ 65537) ∧ 0 ≤ most ∧ most ≤ 1099511627776 ∧ 1 ≤ next ∧ next ≤ 65537 ∧ most = most ∧ ([] : List (List Int)).length + 8 * (l.length * l.length) ≤ 1000000000)] ?_ (Zs (Sz hcx [] [43] [12] [612] (Zi (b := Cn.z3f most l next false ([] : List (List Int))) (fun h8 => ?_) fun h8 => ?_))))))))))))))
     ·
      refine ap ?_ az
      exact ⟨by omega, by omega, hlb, by omega, by omega, by omega, by omega, rfl, by have := Nat.mul_le_mul (show l.length ≤ 4096 by omega) (show l.length ≤ 4096 by omega); simp only [List.length_nil]; omega⟩
     ·
      have hr := Cn.z9y hg hap hnz h8
      exact Sz hcx [(607, .to 607)] [6, 8, 9] [43, 5] [605, 701] (Zr (Fr (Fp 6 (.ints []) (Fv 607 0 700 22 (.intss []) (Fn [(700, .to 0), (607, .to 990)] [6, 7, 8, 9] (Rv hcx (congrArg AV.tup (q0c (congrArg AV.ints (show [] = (Cn.q1w most l next).1 from (by (rw [hr]; done)))) (q0c rfl (q0c (congrArg AV.int (show 0 = (Cn.q1w most l next).2.2.1 from (by (rw [hr]; done)))) (q0c (congrArg AV.int (show 2 = (Cn.q1w most l next).2.2.2 from (by (rw [hr]; done)))) rfl))))) [true] (q0r (congrArg some (congrArg (fun x => q0d.row 22 (.intss x)) (show [] = (Cn.q1w most l next).2.1 from (by (rw [hr]; done))))) rfl)))))))
     ·
      have hr := Cn.j0x hg hap hnz h8
      have hol := Cn.k3t (fl := false) (c := []) g3 hnz.1 g1 g2 hlb
      refine Zk (Ft (Sd hcx hmx [0, 1, 0, 0, 3, 23, 63, 127] [(1001, .to 245), (607, .to 607)] [6, 8, 9] [43, 5] [605] [((Cn.z5u most l next false ([] : List (List Int))).length * 8 ≤ 140737488355328)] ?_ (Zr (Fn [(701, .to 0), (607, .to 990), (245, .frz)] [6, 7, 8, 9] (Rv hcx (congrArg AV.tup (q0c (congrArg AV.ints (show (Cn.z5u most l next false ([] : List (List Int))) = (Cn.q1w most l next).1 from (by (rw [hr]; done)))) (q0c rfl (q0c (congrArg AV.int (show (Cn.z5v most l next false ([] : List (List Int))) = (Cn.q1w most l next).2.2.1 from (by (rw [hr]; done)))) (q0c (congrArg AV.int (show 0 = (Cn.q1w most l next).2.2.2 from (by (rw [hr]; done)))) rfl))))) [true] (q0r (congrArg some (congrArg (fun x => q0d.row 22 (.intss x)) (show (Cn.z8s most l next false ([] : List (List Int))) = (Cn.q1w most l next).2.1 from (by (rw [hr]; done))))) rfl))))))
      ·
       refine ap ?_ az
       omega
 ·
  cases hσ
end Go.Proofs.YtkkapbnopmmmjaaGreatDoor.En
