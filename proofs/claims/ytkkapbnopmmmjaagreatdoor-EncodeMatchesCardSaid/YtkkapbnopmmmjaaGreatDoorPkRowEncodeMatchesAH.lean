/- Lemmas and contracts for the row. -/
import Derived.Test.YtkkapbnopmmmjaaGreatDoorPkRowEncodeMatchesY
import Derived.Test.YtkkapbnopmmmjaaGreatDoorProg
import Derived.Test.YtkkapbnopmmmjaaGreatDoorPkRowEncodeMatchesX
import Derived.Test.YtkkapbnopmmmjaaGreatDoorPkRowEncodeMatchesAG
import Derived.Test.YtkkapbnopmmmjaaGreatDoorPkRowEncodeMatchesAD
import Derived.Test.YtkkapbnopmmmjaaGreatDoorPkRowEncodeMatchesL
import Derived.Test.YtkkapbnopmmmjaaGreatDoorPkRowEncodeMatchesZ
import Derived.Test.YtkkapbnopmmmjaaGreatDoorPkRowEncodeMatchesAA
import Derived.Test.YtkkapbnopmmmjaaGreatDoorPkRowEncodeMatchesAB
set_option linter.unusedVariables false
set_option linter.unusedSimpArgs false
set_option linter.unnecessarySimpa false
namespace Go.Proofs.YtkkapbnopmmmjaaGreatDoor.En
open Go Go.RowKit
def q4j : List (Nat × TD) := [(3, ⟨1, false, [.int .i64 0], [], none, 8, false, 1, 1⟩),
 (22, ⟨1, false, [.slice none 0 0], [], some 3, 24, false, 0, 3⟩),
 (24, ⟨3, true, [.slice none 0 0, .slice none 0 0, .int .i64 0], [(0, 22), (1, 22), (2, 3)], none, 56, false, 0, 5⟩),
 (26, ⟨1, false, [.int .i64 0], [], none, 8, false, 1, 1⟩),
 (30, ⟨1, false, [.slice none 0 0], [], some 22, 24, false, 0, 0⟩),
 (44, ⟨1, false, [.slice none 0 0], [], some 24, 24, false, 0, 0⟩),
 (66, ⟨1, false, [.nilFunc], [], none, 8, false, 0, 0⟩),
 (68, ⟨4, true, [.slice none 0 0, .slice none 0 0, .int .i64 0, .nilFunc], [(0, 24), (3, 66)], none, 64, false, 0, 0⟩),
 (71, ⟨1, false, [.nilFunc], [], none, 8, false, 0, 0⟩),
 (72, ⟨1, false, [.map none], [], none, 8, false, 10, 71⟩)]
theorem q1i : q7v Tryz.prog q4j := ⟨⟨by kernel_rfl, by kernel_rfl, by kernel_rfl⟩, ⟨by kernel_rfl, by kernel_rfl, by kernel_rfl⟩, ⟨by kernel_rfl, by kernel_rfl, by kernel_rfl⟩, ⟨by kernel_rfl, by kernel_rfl, by kernel_rfl⟩, ⟨by kernel_rfl, by kernel_rfl, by kernel_rfl⟩, ⟨by kernel_rfl, by kernel_rfl, by kernel_rfl⟩, ⟨by kernel_rfl, by kernel_rfl, by kernel_rfl⟩, ⟨by kernel_rfl, by kernel_rfl, by kernel_rfl⟩, ⟨by kernel_rfl, by kernel_rfl, by kernel_rfl⟩, ⟨by kernel_rfl, by kernel_rfl, by kernel_rfl⟩, trivial⟩
def y0y : Cx := ⟨q4j, [], true⟩
theorem j6v : q1g Tryz.prog y0y := q1b q1i trivial
def z0p : CtF
 | [.agg [.im (.ls (.ints C)), .im (.ls (.ints L)), .im (.val (.int .i64 B)), .clo 38 [.pto [.val (.int .i64 g)]]]], [] => some (Cn.q2u C B, .tup [.int (Cn.evK C B), .bool (Cn.evB C)], [])
 | _, _ => none
theorem q5l : q0o Tryz.prog 84 z0p := by
 refine Sw (cx := y0y) Tryz.f84 Tryz.func84 ?_
 intro wW wO wβ G0 args os p r outs hσ hp
 have hcx := j6v
 have hmx : Tryz.prog.follows .mixedOrders = true := by kernel_rfl
 unfold z0p at hσ
 split at hσ
 ·
  rename_i C L B g
  cases hσ
  refine ⟨by kernel_rfl, ?_⟩
  have hn := hp
  have hl := hp.1
  have hb := Cn.y2v hp
  refine Sz hcx [(1000, .to 601)] [1] [0] [] (Zs (Sz hcx [] [8, 9, 10] [] [] (Zb (Lp (X := Nat) (fun x0 => x0 ≤ C.length ∧ ∀ j, j < x0 → C.getD j 0 = C.getD 0 0) (fun x0 => ([(1, .loc 601 0), (8, .ints C), (9, .int (C.length : Int)), (10, .int (x0 : Int))], [(601, .box [.ints C, .ints L, .int B, .clo 38 [.pto [.int g]]])])) (fun x0 => C.length - x0) (0) ?_ (Ex 10 (congrArg AV.int (show 0 = (0 : Int) from (by first | rfl | omega | (simp; done)))) Eb) Hb fun i hI => ?_))))
  ·
   exact ⟨Nat.zero_le _, fun j hj => by omega⟩
  ·
   try dsimp only at hI
   obtain ⟨hk, hok⟩ := hI
   refine Sz hcx [] [11] [] [] (Zs (Zj (p := ((i : Int) < (C.length : Int))) (fun h0 => ?_) fun h0 => ?_))
   ·
    refine Zk (Ft (Zs (Zb (Sq hcx [] [5] [11] [] [((0 : Int) ≤ (i : Int) ∧ (i : Int) < (C.length : Int))] ?_ (Sq hcx [] [20] [5] [] [((0 : Int) ≤ 0 ∧ 0 < (C.length : Int))] ?_ (Zi (b := (C.getD i 0) != (C.getD 0 0)) (fun h1 => ?_) fun h1 => ?_))))))
    ·
     refine ap ?_ az
     omega
    ·
     refine ap ?_ az
     omega
    ·
     replace h1 := bne_iff_ne.1 h1
     obtain ⟨e1, e2⟩ := Cn.k3r (B := B) (by omega) h1
     exact Sz hcx [] [2, 3] [20, 1, 8, 9, 10] [601] (Zr (Fk (Fr (Fr (Fk (Fr (Rv hcx (congrArg AV.tup (q0c (congrArg AV.int (show 0 = (Cn.evK C B) from (by first | exact e1.symm | exact e2.symm | (rw [e1, e2]; done)))) (q0c (congrArg AV.bool (show false = (Cn.evB C) from (by first | exact e1.symm | exact e2.symm | (rw [e1, e2]; done)))) rfl))) [] rfl)))))))
    ·
     replace h1 := k0y h1
     have hq := h1
     refine Zk (Fb (Ft (Tq hcx [] [10] [20] [] [Fit ((i : Int) + 1)] ?_ (Lr (i + 1) ?_ ?_ (Ex 10 (congrArg AV.int (show ((i : Int) + 1) = ((i + 1) : Int) from (by first | rfl | omega | (simp; done)))) Eb) Hb))))
     ·
      refine ap ?_ az
      omega
     ·
      exact ⟨by omega, fun j hj => by rcases (by omega : j < i ∨ j = i) with h | rfl; exact hok j h; exact hq⟩
     ·
      show C.length - (i + 1) < C.length - i
      omega
   ·
    refine Ze (Fe (Fe (Fs (Ft (Zs (Sz hcx [] [26] [11, 8, 9, 10] [] (Zu (a := (C.length : Int)) (b := 0) (fun h2 => ?_) fun h2 => ?_)))))))
    ·
     obtain ⟨e1, e2⟩ := Cn.x5e (B := B) h2
     exact Sz hcx [] [2, 3] [26, 1] [601] (Zr (Fr (Rv hcx (congrArg AV.tup (q0c (congrArg AV.int (show 0 = (Cn.evK C B) from (by first | exact e1.symm | exact e2.symm | (rw [e1, e2]; done)))) (q0c (congrArg AV.bool (show false = (Cn.evB C) from (by first | exact e1.symm | exact e2.symm | (rw [e1, e2]; done)))) rfl))) [] rfl)))
    ·
     have h26 := h2
     obtain ⟨e1, e2⟩ := Cn.x6q (B := B) (by omega) hok h26
     obtain ⟨c1, c2, c3, c4⟩ := Cn.k1u hn h26
     refine Zk (Ft (Sd hcx hmx [0, 1, 3, 7, 0, 16, 48, 112, 240, 511, 1023, 2047, 4095] [] [2, 3] [26, 1] [601] [Fit (B - 1), ((0 : Int) ≤ 0 ∧ 0 < (C.length : Int)), (((C.getD 0 0) : Int) ≠ 0 ∧ Fit ((B - 1).tdiv (C.getD 0 0))), Fit (((B - 1).tdiv (C.getD 0 0)) + 1)] ?_ (Zr (Rv hcx (congrArg AV.tup (q0c (congrArg AV.int (show (((B - 1).tdiv (C.getD 0 0)) + 1) = (Cn.evK C B) from (by first | exact e1.symm | exact e2.symm | (rw [e1, e2]; done)))) (q0c (congrArg AV.bool (show true = (Cn.evB C) from (by first | exact e1.symm | exact e2.symm | (rw [e1, e2]; done)))) rfl))) [] rfl))))
     ·
      refine ap ?_ (ap ?_ (ap ?_ (ap ?_ az))) <;>
       omega
 ·
  cases hσ
def y7r : Cx := ⟨q4j, [(84, (q2g [.agg [.ld (.ints []), .ld (.ints []), .id, .id]] z0p))], true⟩
theorem y3b : q1g Tryz.prog y7r := q1b q1i ⟨(q5l.coe [.agg [.ld (.ints []), .ld (.ints []), .id, .id]] rfl), trivial⟩
def y8y : CtF
 | [.agg [.im (.ls (.ints C)), .im (.ls (.ints L)), .im (.val (.int .i64 B)), .clo 38 [.pto [.val (.int .i64 g)]]]], [] => some (Cn.q2u C B, .int (Cn.q1q C B), [])
 | _, _ => none
theorem z7e : q0o Tryz.prog 34 y8y := by
 refine Sw (cx := y7r) Tryz.f34 Tryz.func34 ?_
 intro wW wO wβ G0 args os p r outs hσ hp
 have hcx := y3b
 have hmx : Tryz.prog.follows .mixedOrders = true := by kernel_rfl
 unfold y8y at hσ
 split at hσ
 ·
  rename_i C L B g
  cases hσ
  refine ⟨by kernel_rfl, ?_⟩
  have hn := hp
  have hl := hp.1
  have hb := Cn.y2v hp
  have hnk := fun h => Cn.x9t hn h
  have hfe := fun h => (Cn.q6g hn h).1
  refine Sz hcx [(1000, .to 601)] [1] [0] [] (Sq hcx [] [3, 4] [] [] [(Cn.q2u C B)] ?_ (Zs (Sz hcx [] [5] [] [] (Zb (Sq hcx [] [15] [] [] [(((C.length : Int) == 0) = true → (((C.length : Int) == 0) = true)), (((C.length : Int) == 0) = true → (((C.length : Int) == 0) = true)), (((C.length : Int) == 0) = true → (((C.length : Int) == 0) = true)), (((C.length : Int) == 0) = true → ((C.length : Int) == 0) = true)] ?_ (Zi (b := ((C.length : Int) == 0) && (B == 0)) (fun h0 => ?_) fun h0 => ?_))))))
  ·
   refine ap ?_ az
   omega
  ·
   refine ap ?_ (ap ?_ (ap ?_ (ap (by exact id) az))) <;>
    exact id
  ·
   have hr := Cn.k8a h0
   exact Sz hcx [] [2] [15, 5, 3, 4, 1] [601] (Zr (Fk (Fr (Rv hcx (congrArg AV.int (show 5 = (Cn.q1q C B) from (by exact hr.symm))) [] rfl))))
  ·
   have h5_ := h0
   refine Sz hcx [] [24] [15] [] (Zu (a := (C.length : Int)) (b := 0) (fun h1 => ?_) fun h1 => ?_)
   ·
    have hr := Cn.k8n h5_ h1
    exact Sz hcx [] [2] [24, 5, 3, 4, 1] [601] (Zr (Fk (Fr (Rv hcx (congrArg AV.int (show 6 = (Cn.q1q C B) from (by exact hr.symm))) [] rfl))))
   ·
    have h6_ := h1
    refine Sd hcx hmx [0, 1, 3, 7, 15, 31, 63, 3, 131, 387, 1023, 2047, 4095] [] [27] [24, 1] [601] [((Cn.evB C) = true → ((Cn.evB C) = true)), ((Cn.evB C) = true → ((Cn.evB C) = true)), ((Cn.evB C) = true → ((Cn.evB C) = true)), ((Cn.evB C) = true → ((0 : Int) ≤ 0 ∧ 0 < (C.length : Int))), ((Cn.evB C) = true → ((Cn.evB C) = true)), ((Cn.evB C) = true → ((Cn.evB C) = true)), ((Cn.evB C) = true → ((Cn.evB C) = true)), ((Cn.evB C) = true → ((Cn.evB C) = true)), ((Cn.evB C) = true → ((Cn.evB C) = true)), ((Cn.evB C) = true → (Cn.evB C) = true)] ?_ (Zi (b := (Cn.evB C) && ((C.getD 0 0) == B)) (fun h2 => ?_) fun h2 => ?_)
    ·
     refine ap ?_ (ap ?_ (ap ?_ (ap ?_ (ap ?_ (ap ?_ (ap ?_ (ap ?_ (ap ?_ (ap (by exact id) az))))))))) <;>
      first | omega | exact id
    ·
     have hr := Cn.k8w h6_ h2
     exact Sz hcx [] [2] [27, 5, 3, 4] [] (Zr (Fk (Fr (Rv hcx (congrArg AV.int (show 1 = (Cn.q1q C B) from (by exact hr.symm))) [] rfl))))
    ·
     have h1_ := h2
     refine Sq hcx [] [40] [27] [] [((Cn.evB C) = true → ((Cn.evB C) = true)), ((Cn.evB C) = true → (Cn.evB C) = true)] ?_ (Zi (b := (Cn.evB C) && (decide ((C.length : Int) ≤ 10))) (fun h3 => ?_) fun h3 => ?_)
     ·
      refine ap ?_ (ap (by exact id) az)
      exact id
     ·
      have hr := Cn.k8v h6_ h1_ h3
      exact Sz hcx [] [2] [40, 5, 3, 4] [] (Zr (Fk (Fr (Rv hcx (congrArg AV.int (show 2 = (Cn.q1q C B) from (by exact hr.symm))) [] rfl))))
     ·
      have h2_ := h3
      refine Sq hcx [] [46] [40, 5, 3, 4] [] [((Cn.evB C) = true → ((Cn.evB C) = true)), ((Cn.evB C) = true → ((Cn.evB C) = true)), ((Cn.evB C) = true → Fit ((C.length : Int) * (Cn.evK C B))), ((Cn.evB C) = true → ((Cn.evB C) = true)), ((Cn.evB C) = true → (Cn.evB C) = true)] ?_ (Zi (b := (Cn.evB C) && (decide (((C.length : Int) * (Cn.evK C B)) ≤ 400))) (fun h4 => ?_) fun h4 => ?_)
      ·
       refine ap ?_ (ap ?_ (ap ?_ (ap ?_ (ap (by exact id) az)))) <;>
        first | exact id | (intro h8; have h9 := hnk h8; constructor <;> omega)
      ·
       have hr := Cn.k7u h6_ h1_ h2_ h4
       exact Sz hcx [] [2] [46] [] (Zr (Fk (Fr (Rv hcx (congrArg AV.int (show 3 = (Cn.q1q C B) from (by exact hr.symm))) [] rfl))))
      ·
       have hr := Cn.k7w h6_ h1_ h2_ h4
       exact Zk (Fb (Ft (Sz hcx [] [2] [46] [] (Zr (Rv hcx (congrArg AV.int (show 4 = (Cn.q1q C B) from (by exact hr.symm))) [] rfl)))))
 ·
  cases hσ
def y6i : Cx := ⟨q4j, [], true⟩
theorem y3f : q1g Tryz.prog y6i := q1b q1i trivial
def z4c : CtF
 | [.im (.ls (.intss c)), .pto [.val (.int .i64 g)]], [] => some (c.length ≤ 1000000000 ∧ (∀ l ∈ c, l.length ≤ 1000000000) ∧ -65537 ≤ g ∧ g ≤ 65537, .row 0, [some (.row 22 (.intss (Cn.grd g c)))])
 | _, _ => none
theorem q5b : q0o Tryz.prog 38 z4c := by
 refine Sw (cx := y6i) Tryz.f38 Tryz.func38 ?_
 intro wW wO wβ G0 args os p r outs hσ hp
 have hcx := y3f
 unfold z4c at hσ
 split at hσ
 ·
  rename_i c g
  cases hσ
  refine ⟨by kernel_rfl, ?_⟩
  obtain ⟨hm1, hm2, hg1, hg2⟩ := hp
  have hb := fun i (h : i < c.length) => hm2 _ (Cn.q0u (d := ([] : List Int)) (k := i) h)
  refine Sz hcx [] [3] [] [] (Zs (Sz hcx [] [7, 8, 9] [0] [] (Zb (Zw 3 700 22 (.intss []) (Lp (X := Nat) (fun x0 => x0 ≤ c.length) (fun x0 => ([(1, .pto [.int g]), (3, .row 700), (7, .intss c), (8, .int (c.length : Int)), (9, .int (x0 : Int))], [(700, .row 22 (.intss (Cn.grd g (c.take x0))))])) (fun x0 => c.length - x0) (0) ?_ (Ex 9 (congrArg AV.int (show 0 = (0 : Int) from (by first | rfl | omega | (simp; done)))) Eb) Hb fun i hI => ?_)))))
  ·
   show 0 ≤ c.length
   omega
  ·
   replace hI : i ≤ c.length := hI
   have hbi := hb i
   have hgl := Cn.x5b g c i
   refine Sz hcx [] [10] [] [] (Zs (Zj (p := ((i : Int) < (c.length : Int))) (fun h0 => ?_) fun h0 => ?_))
   ·
    refine Zk (Ft (Zs (Zb (Sq hcx [] [5] [10] [] [((0 : Int) ≤ (i : Int) ∧ (i : Int) < (c.length : Int))] ?_ (Sq hcx [(1003, .to 216)] [6] [] [] [Fit (((c.getD i []).length : Int) + 1), ((0 : Int) ≤ 0 ∧ 0 ≤ ((((c.getD i []).length : Int) + 1) : Int) ∧ (((c.getD i []).length) + 1) * 8 ≤ 140737488355328)] ?_ (Zs (Sz hcx [] [18] [] [] (Zx (a := g) (b := 0) (fun h1 => ?_) fun h1 => ?_))))))))
    ·
     refine ap ?_ az
     omega
    ·
     refine ap ?_ (ap ?_ az) <;>
      omega
    ·
     have h18 := h1
     refine Tq hcx [(1004, .to 216)] [6] [18] [216] [Fit (-g), ((([] : List Int).length + [(-g)].length) * 8 ≤ 140737488355328)] ?_ (Ft (Tq hcx [(1005, .to 700)] [3] [6, 5] [216, 700] [((([] ++ [(-g)]).length + (c.getD i []).length) * 8 ≤ 140737488355328), (((Cn.grd g (c.take i)).length + [(([] ++ [(-g)]) ++ (c.getD i []))].length) * 24 ≤ 140737488355328)] ?_ (Fb (Ft (Tq hcx [] [9] [] [] [Fit ((i : Int) + 1)] ?_ (Lr (i + 1) ?_ ?_ (Ex 9 (congrArg AV.int (show ((i : Int) + 1) = ((i + 1) : Int) from (by first | rfl | omega | (simp; done)))) Eb) (Hx 700 (congrArg (fun x => q0d.row 22 (.intss x)) (show ((Cn.grd g (c.take i)) ++ [(([] ++ [(-g)]) ++ (c.getD i []))]) = (Cn.grd g (c.take (i + 1))) from (by first | exact Cn.k5y (by omega) h18 | exact Cn.k5j (by omega) h18))) Hb)))))))
     ·
      refine ap ?_ (ap ?_ az) <;>
       first | omega | (simp only [List.length_cons, List.length_nil, List.length_append, List.length_map, List.length_set, List.length_replicate]; omega)
     ·
      refine ap ?_ (ap ?_ az) <;>
       (simp only [List.length_cons, List.length_nil, List.length_append, List.length_map, List.length_set, List.length_replicate]; omega)
     ·
      refine ap ?_ az
      omega
     ·
      show (i + 1) ≤ c.length
      omega
     ·
      show c.length - (i + 1) < c.length - i
      omega
    ·
     have h18 := h1
     refine Zk (Ft (Tq hcx [(1005, .to 700)] [3] [18, 6, 5] [216, 700] [((([] : List Int).length + (c.getD i []).length) * 8 ≤ 140737488355328), (((Cn.grd g (c.take i)).length + [([] ++ (c.getD i []))].length) * 24 ≤ 140737488355328)] ?_ (Fb (Ft (Tq hcx [] [9] [] [] [Fit ((i : Int) + 1)] ?_ (Lr (i + 1) ?_ ?_ (Ex 9 (congrArg AV.int (show ((i : Int) + 1) = ((i + 1) : Int) from (by first | rfl | omega | (simp; done)))) Eb) (Hx 700 (congrArg (fun x => q0d.row 22 (.intss x)) (show ((Cn.grd g (c.take i)) ++ [([] ++ (c.getD i []))]) = (Cn.grd g (c.take (i + 1))) from (by first | exact Cn.k5y (by omega) h18 | exact Cn.k5j (by omega) h18))) Hb)))))))
     ·
      refine ap ?_ (ap ?_ az) <;>
       (simp only [List.length_cons, List.length_nil, List.length_append, List.length_map, List.length_set, List.length_replicate]; omega)
     ·
      refine ap ?_ az
      omega
     ·
      show (i + 1) ≤ c.length
      omega
     ·
      show c.length - (i + 1) < c.length - i
      omega
   ·
    exact Ze (Fe (Fe (Fs (Ft (Sz hcx [] [3] [10, 1, 7, 8, 9] [] (Zr (Fn [(700, .to 0)] [3] (Rv hcx rfl [true] (q0r (congrArg some (congrArg (fun x => q0d.row 22 (.intss x)) (show (Cn.grd g (c.take i)) = (Cn.grd g c) from (by (rw [show i = c.length by omega, List.take_length]))))) rfl)))))))))
 ·
  cases hσ
def z8q : Cx := ⟨q4j, [(38, (q2g [.ld (.intss []), .id] z4c))], true⟩
theorem z9m : q1g Tryz.prog z8q := q1b q1i ⟨(q5b.coe [.ld (.intss []), .id] rfl), trivial⟩
def z5e : CtF
 | [.agg [.im (.ls (.ints C)), .im (.ls (.ints L)), .im (.val (.int .i64 B)), .clo 38 [.pto [.val (.int .i64 g)]]], .im (.val (.int .i64 next))], [] => some (L.length ≤ 1000000 ∧ -65537 ≤ g ∧ g ≤ 65537, .tup [.row 0, .int next, .int 0], [some (.row 22 (.intss (Cn.grd g [L])))])
 | _, _ => none
theorem z8w : q0o Tryz.prog 88 z5e := by
 refine Sw (cx := z8q) Tryz.f88 Tryz.func88 ?_
 intro wW wO wβ G0 args os p r outs hσ hp
 have hcx := z9m
 unfold z5e at hσ
 split at hσ
 ·
  rename_i C L B g next
  cases hσ
  refine ⟨by kernel_rfl, ?_⟩
  obtain ⟨hm1, hg1, hg2⟩ := hp
  refine Sz hcx [(1000, .to 602)] [2] [0] [] (Sq hcx [(1006, .to 213)] [4, 5, 6] [2, 1] [602] [([L].length ≤ 1000000000 ∧ (∀ l ∈ [L], l.length ≤ 1000000000) ∧ -65537 ≤ g ∧ g ≤ 65537)] ?_ (Zr (Fn [(213, .to 0)] [4, 5, 6] (Ru hcx [true]))))
  ·
   refine ap ?_ az
   exact ⟨by show (1 : Nat) ≤ 1000000000; decide, fun x hx => by rw [List.mem_singleton.1 hx]; first | omega | exact Nat.zero_le _, hg1, hg2⟩
 ·
  cases hσ
def z3m : Cx := ⟨q4j, [], true⟩
theorem z6o : q1g Tryz.prog z3m := q1b q1i trivial
def z0z : CtF
 | [.agg [.im (.ls (.ints C)), .im (.ls (.ints L)), .im (.val (.int .i64 B)), .clo 38 [.pto [.val (.int .i64 g)]]], .im (.val (.int .i64 next))], [] => some (True, .tup [.im (.val (.slice none 0 0)), .int next, .int 0], [])
 | _, _ => none
theorem z6a : q0o Tryz.prog 92 z0z := by
 refine Sw (cx := z3m) Tryz.f92 Tryz.func92 ?_
 intro wW wO wβ G0 args os p r outs hσ hp
 have hcx := z6o
 unfold z0z at hσ
 split at hσ
 ·
  rename_i C L B g next
  cases hσ
  refine ⟨by kernel_rfl, ?_⟩
  exact Sz hcx [] [] [0] [] (Sz hcx [] [4, 5, 6] [1] [] (Zr (Ru hcx [])))
 ·
  cases hσ
def j3g : Cx := ⟨q4j, [(38, (q2g [.ld (.intss []), .id] z4c))], true⟩
theorem j2y : q1g Tryz.prog j3g := q1b q1i ⟨(q5b.coe [.ld (.intss []), .id] rfl), trivial⟩
def j1x : CtF
 | [.agg [.im (.ls (.ints C)), .im (.ls (.ints L)), .im (.val (.int .i64 B)), .clo 38 [.pto [.val (.int .i64 g)]]], .im (.val (.int .i64 next))], [] => some (-65537 ≤ g ∧ g ≤ 65537, .tup [.row 0, .int next, .int 0], [some (.row 22 (.intss (Cn.grd g [[]])))])
 | _, _ => none
theorem j6h : q0o Tryz.prog 93 j1x := by
 refine Sw (cx := j3g) Tryz.f93 Tryz.func93 ?_
 intro wW wO wβ G0 args os p r outs hσ hp
 have hcx := j2y
 unfold j1x at hσ
 split at hσ
 ·
  rename_i C L B g next
  cases hσ
  refine ⟨by kernel_rfl, ?_⟩
  obtain ⟨hg1, hg2⟩ := hp
  refine Sz hcx [(1000, .to 602)] [2] [0] [] (Sq hcx [(1004, .to 211)] [4, 5, 6] [2, 1] [602] [(([[]] : List (List Int)).length ≤ 1000000000 ∧ (∀ l ∈ ([[]] : List (List Int)), l.length ≤ 1000000000) ∧ -65537 ≤ g ∧ g ≤ 65537)] ?_ (Zr (Fn [(211, .to 0)] [4, 5, 6] (Rv hcx rfl [true] (q0r (congrArg some (congrArg (fun x => q0d.row 22 (.intss x)) (show (Cn.grd g ([[]] : List (List Int))) = (Cn.grd g [[]]) from (by first | rfl | (simp; done))))) rfl)))))
  ·
   refine ap ?_ az
   exact ⟨by show (1 : Nat) ≤ 1000000000; decide, fun x hx => by rw [List.mem_singleton.1 hx]; first | omega | exact Nat.zero_le _, hg1, hg2⟩
 ·
  cases hσ
def j5g : Cx := ⟨q4j, [(84, (q2g [.agg [.ld (.ints []), .ld (.ints []), .id, .id]] z0p)), (38, (q2g [.ld (.intss []), .id] z4c)), (129, (q2g [.ld (.ints []), .id, .id] y7g))], true⟩
theorem j2z : q1g Tryz.prog j5g := q1b q1i ⟨(q5l.coe [.agg [.ld (.ints []), .ld (.ints []), .id, .id]] rfl), (q5b.coe [.ld (.intss []), .id] rfl), (y3i.coe [.ld (.ints []), .id, .id] rfl), trivial⟩
def z9p : CtF
 | [.agg [.im (.ls (.ints C)), .im (.ls (.ints L)), .im (.val (.int .i64 B)), .clo 38 [.pto [.val (.int .i64 g)]]], .im (.val (.int .i64 next))], [] => some (Cn.q2u C B ∧ Cn.evB C = true ∧ L.length = C.length ∧ (∀ x ∈ L, x ≠ 0 ∧ -65536 ≤ x ∧ x ≤ 65536) ∧ Fit next ∧ -65537 ≤ g ∧ g ≤ 65537, .tup [.intss ((Cn.j2e C L B g next).1), .int ((Cn.j2e C L B g next).2.1), .int ((Cn.j2e C L B g next).2.2)], [])
 | _, _ => none
theorem j5x : q0o Tryz.prog 89 z9p := by
 refine Sw (cx := j5g) Tryz.f89 Tryz.func89 ?_
 intro wW wO wβ G0 args os p r outs hσ hp
 have hcx := j2z
 have hmx : Tryz.prog.follows .mixedOrders = true := by kernel_rfl
 unfold z9p at hσ
 split at hσ
 ·
  rename_i C L B g next
  cases hσ
  refine ⟨by kernel_rfl, ?_⟩
  obtain ⟨hn, he, hLC, hx1, hf, hg1, hg2⟩ := hp
  have hl := hn.1
  have hx2 : ∀ x ∈ L, -65537 ≤ x ∧ x ≤ 65537 := fun x hx => by have := hx1 x hx; omega
  obtain ⟨f1, f2, f3, f4, f5, f6, f7⟩ := Cn.q6g hn he
  have htl := Cn.y0e (next := next) (k := Cn.evK C B) hx2
  refine Sz hcx [(1000, .to 602)] [2] [0] [] (Sq hcx [] [7] [] [] [(Cn.q2u C B)] ?_ (Sq hcx [(1005, .to 224)] [9, 10, 11, 12] [1] [] [(L.length ≤ maxLen ∧ (∀ x ∈ L, -65537 ≤ x ∧ x ≤ 65537) ∧ Fit (Cn.evK C B) ∧ Fit next)] ?_ (Zs (Sz hcx [] [30] [] [] (Zx (a := ((Cn.q1w (Cn.evK C B) L next).2.2.2)) (b := 0) (fun h0 => ?_) fun h0 => ?_)))))
  ·
   refine ap ?_ az
   omega
  ·
   refine ap ?_ az
   exact ⟨by unfold maxLen; omega, hx2, by unfold Fit; omega, hf⟩
  ·
   have hr := Cn.j9r (g := g) h0
   exact Sz hcx [] [4, 5, 6] [30, 9, 10, 11, 12, 7, 2] [224, 602] (Zr (Fr (Fp 4 (.intss []) (Rv hcx (congrArg AV.tup (q0c (congrArg AV.intss (show [] = (Cn.j2e C L B g next).1 from (by first | (rw [hr]; done) | (rw [hr]; exact h0)))) (q0c (congrArg AV.int (show 0 = (Cn.j2e C L B g next).2.1 from (by first | (rw [hr]; done) | (rw [hr]; exact h0)))) (q0c (congrArg AV.int (show (Cn.q1w (Cn.evK C B) L next).2.2.2 = (Cn.j2e C L B g next).2.2 from (by first | (rw [hr]; done) | (rw [hr]; exact h0)))) rfl)))) [] rfl))))
  ·
   have h0 : (Cn.q1w (Cn.evK C B) L next).2.2.2 = 0 := by have := h0; omega
   have hr := Cn.x2e (g := g) h0
   have hok := Cn.k4u f4 (by omega) h0
   have hol : ((Cn.q1w (Cn.evK C B) L next).1.length : Int) = Cn.evK C B := by rw [hok.2]; exact Cn.y1p f4 (by omega) hok.1
   refine Zk (Ft (Sd hcx hmx [0, 0, 2, 0, 0, 16, 0, 120, 248, 510, 1023, 0, 0, 2047, 12287, 32767] [(1010, .to 224)] [4, 5, 6] [30, 9, 10, 11, 12, 7, 2] [224, 602] [Fit ((Cn.evK C B) - 1), ((0 : Int) ≤ ((Cn.evK C B) - 1) ∧ ((Cn.evK C B) - 1) ≤ (Cn.evK C B) ∧ (Cn.evK C B) ≤ (((Cn.q1w (Cn.evK C B) L next).1).length : Int)), ([((((Cn.q1w (Cn.evK C B) L next).1).take ((Cn.evK C B).toNat)).drop (((Cn.evK C B) - 1).toNat))].length ≤ 1000000000 ∧ (∀ l ∈ [((((Cn.q1w (Cn.evK C B) L next).1).take ((Cn.evK C B).toNat)).drop (((Cn.evK C B) - 1).toNat))], l.length ≤ 1000000000) ∧ -65537 ≤ g ∧ g ≤ 65537), ((((Cn.q1w (Cn.evK C B) L next).2.1).length + (Cn.grd g [((((Cn.q1w (Cn.evK C B) L next).1).take ((Cn.evK C B).toNat)).drop (((Cn.evK C B) - 1).toNat))]).length) * 24 ≤ 140737488355328)] ?_ (Zr (Fn [(224, .frz)] [4, 5, 6] (Rv hcx (congrArg AV.tup (q0c (congrArg AV.intss (show (((Cn.q1w (Cn.evK C B) L next).2.1) ++ (Cn.grd g [((((Cn.q1w (Cn.evK C B) L next).1).take ((Cn.evK C B).toNat)).drop (((Cn.evK C B) - 1).toNat))])) = (Cn.j2e C L B g next).1 from (by first | (rw [hr]; done) | (rw [hr]; exact h0)))) (q0c (congrArg AV.int (show (Cn.q1w (Cn.evK C B) L next).2.2.1 = (Cn.j2e C L B g next).2.1 from (by first | (rw [hr]; done) | (rw [hr]; exact h0)))) (q0c (congrArg AV.int (show (Cn.q1w (Cn.evK C B) L next).2.2.2 = (Cn.j2e C L B g next).2.2 from (by first | (rw [hr]; done) | (rw [hr]; exact h0)))) rfl)))) [] rfl)))))
   ·
    refine ap ?_ (ap ?_ (ap ?_ (ap ?_ az))) <;>
     first | omega | exact ⟨by show (1 : Nat) ≤ 1000000000; decide, fun x hx => by rw [List.mem_singleton.1 hx, List.length_drop, List.length_take]; omega, hg1, hg2⟩ | (rw [Cn.q4q]; simp only [List.length_cons, List.length_nil]; omega)
 ·
  cases hσ
def j5h : Cx := ⟨q4j, [(84, (q2g [.agg [.ld (.ints []), .ld (.ints []), .id, .id]] z0p)), (38, (q2g [.ld (.intss []), .id] z4c)), (130, (q2g [.ld (.ints []), .id, .id] j1a))], true⟩
theorem j3n : q1g Tryz.prog j5h := q1b q1i ⟨(q5l.coe [.agg [.ld (.ints []), .ld (.ints []), .id, .id]] rfl), (q5b.coe [.ld (.intss []), .id] rfl), (j4e.coe [.ld (.ints []), .id, .id] rfl), trivial⟩
def j1o : CtF
 | [.agg [.im (.ls (.ints C)), .im (.ls (.ints L)), .im (.val (.int .i64 B)), .clo 38 [.pto [.val (.int .i64 g)]]], .im (.val (.int .i64 next))], [] => some (Cn.q2u C B ∧ Cn.evB C = true ∧ L.length = C.length ∧ (∀ x ∈ L, x ≠ 0 ∧ -65536 ≤ x ∧ x ≤ 65536) ∧ Fit next ∧ -65537 ≤ g ∧ g ≤ 65537, .tup [.intss ((Cn.j2f C L B g next).1), .int ((Cn.j2f C L B g next).2.1), .int ((Cn.j2f C L B g next).2.2)], [])
 | _, _ => none
theorem j3d : q0o Tryz.prog 90 j1o := by
 refine Sw (cx := j5h) Tryz.f90 Tryz.func90 ?_
 intro wW wO wβ G0 args os p r outs hσ hp
 have hcx := j3n
 unfold j1o at hσ
 split at hσ
 ·
  rename_i C L B g next
  cases hσ
  refine ⟨by kernel_rfl, ?_⟩
  obtain ⟨hn, he, hLC, hx1, hf, hg1, hg2⟩ := hp
  have hl := hn.1
  have hx3 : ∀ x ∈ L, -70000 ≤ x ∧ x ≤ 70000 := fun x hx => by have := hx1 x hx; omega
  obtain ⟨f1, f2, f3, f4, f5, f6, f7⟩ := Cn.q6g hn he
  have hlr := Cn.y2b (L := L) (next := next) (k := Cn.evK C B)
  refine Sz hcx [(1000, .to 602)] [2] [0] [] (Sq hcx [] [7] [] [] [(Cn.q2u C B)] ?_ (Sq hcx [] [9, 10, 11] [7, 1] [] [(L.length ≤ maxLen ∧ (∀ x ∈ L, -70000 ≤ x ∧ x ≤ 70000) ∧ Fit (Cn.evK C B) ∧ Fit next)] ?_ (Zs (Sz hcx [] [28] [] [] (Zx (a := ((Cn.q0i L (Cn.evK C B) next).2.2)) (b := 0) (fun h0 => ?_) fun h0 => ?_)))))
  ·
   refine ap ?_ az
   omega
  ·
   refine ap ?_ az
   exact ⟨by unfold maxLen; omega, hx3, by unfold Fit; omega, hf⟩
  ·
   have hr := Cn.j9z (g := g) h0
   exact Sz hcx [] [4, 5, 6] [28, 9, 10, 11, 2] [602] (Zr (Fr (Fp 4 (.intss []) (Rv hcx (congrArg AV.tup (q0c (congrArg AV.intss (show [] = (Cn.j2f C L B g next).1 from (by first | (rw [hr]; done) | (rw [hr]; exact h0)))) (q0c (congrArg AV.int (show 0 = (Cn.j2f C L B g next).2.1 from (by first | (rw [hr]; done) | (rw [hr]; exact h0)))) (q0c (congrArg AV.int (show (Cn.q0i L (Cn.evK C B) next).2.2 = (Cn.j2f C L B g next).2.2 from (by first | (rw [hr]; done) | (rw [hr]; exact h0)))) rfl)))) [] rfl))))
  ·
   have h0 : (Cn.q0i L (Cn.evK C B) next).2.2 = 0 := by have := h0; omega
   have hr := Cn.x3k (g := g) h0
   refine Zk (Ft (Sq hcx [(1003, .to 233)] [4, 5, 6] [28, 9, 10, 11, 2] [602] [(((Cn.q0i L (Cn.evK C B) next).1).length ≤ 1000000000 ∧ (∀ l ∈ ((Cn.q0i L (Cn.evK C B) next).1), l.length ≤ 1000000000) ∧ -65537 ≤ g ∧ g ≤ 65537)] ?_ (Zr (Fn [(233, .frz)] [4, 5, 6] (Rv hcx (congrArg AV.tup (q0c (congrArg AV.intss (show (Cn.grd g ((Cn.q0i L (Cn.evK C B) next).1)) = (Cn.j2f C L B g next).1 from (by first | (rw [hr]; done) | (rw [hr]; exact h0)))) (q0c (congrArg AV.int (show (Cn.q0i L (Cn.evK C B) next).2.1 = (Cn.j2f C L B g next).2.1 from (by first | (rw [hr]; done) | (rw [hr]; exact h0)))) (q0c (congrArg AV.int (show (Cn.q0i L (Cn.evK C B) next).2.2 = (Cn.j2f C L B g next).2.2 from (by first | (rw [hr]; done) | (rw [hr]; exact h0)))) rfl)))) [] rfl)))))
   ·
    refine ap ?_ az
    exact ⟨by omega, fun x hx => by have := hlr.2 x hx; omega, hg1, hg2⟩
 ·
  cases hσ
def y8j : Cx := ⟨q4j, [(38, (q2g [.ld (.intss []), .id] z4c)), (131, (q2g [.ld (.ints []), .ld (.ints []), .id] y7s)), (132, (q2g [.ld (.ints []), .id] j2d.up))], true⟩
theorem y3u : q1g Tryz.prog y8j := q1b q1i ⟨(q5b.coe [.ld (.intss []), .id] rfl), (y4g.coe [.ld (.ints []), .ld (.ints []), .id] rfl), (j3t.up.coe [.ld (.ints []), .id] rfl), trivial⟩
def y9y : CtF
 | [.agg [.im (.ls (.ints C)), .im (.ls (.ints L)), .im (.val (.int .i64 B)), .clo 38 [.pto [.val (.int .i64 g)]]], .im (.val (.int .i64 next))], [] => some (C.length ≤ 4096 ∧ L.length = C.length ∧ -65537 ≤ g ∧ g ≤ 65537, .tup [.intss ((Cn.z5k C L B g next).1), .int ((Cn.z5k C L B g next).2.1), .int ((Cn.z5k C L B g next).2.2)], [])
 | _, _ => none
theorem y3m : q0o Tryz.prog 91 y9y := by
 refine Sw (cx := y8j) Tryz.f91 Tryz.func91 ?_
 intro wW wO wβ G0 args os p r outs hσ hp
 have hcx := y3u
 unfold y9y at hσ
 split at hσ
 ·
  rename_i C L B g next
  cases hσ
  refine ⟨by kernel_rfl, ?_⟩
  obtain ⟨hl, hLC, hg1, hg2⟩ := hp
  have hsl := Cn.q9o C L next
  have hll := Cn.q5d (Cn.q2o C L next).1 B
  refine Sz hcx [(1000, .to 602)] [2] [0] [] (Sq hcx [(1007, .to 220)] [7, 8, 9, 10] [1] [] [(C.length ≤ 1000000000 ∧ L.length ≤ 1000000000)] ?_ (Zs (Sz hcx [] [26] [] [] (Zx (a := ((Cn.q2o C L next).2.2.2)) (b := 0) (fun h0 => ?_) fun h0 => ?_))))
  ·
   refine ap ?_ az
   omega
  ·
   have hr := Cn.y1o (B := B) (g := g) h0
   exact Sz hcx [] [4, 5, 6] [26, 7, 8, 9, 10, 2] [220, 602] (Zr (Fr (Fp 4 (.intss []) (Rv hcx (congrArg AV.tup (q0c (congrArg AV.intss (show [] = (Cn.z5k C L B g next).1 from (by first | (rw [hr]; done) | (rw [hr]; exact h1_)))) (q0c (congrArg AV.int (show 0 = (Cn.z5k C L B g next).2.1 from (by first | (rw [hr]; done) | (rw [hr]; exact h1_)))) (q0c (congrArg AV.int (show (Cn.q2o C L next).2.2.2 = (Cn.z5k C L B g next).2.2 from (by first | (rw [hr]; done) | (rw [hr]; exact h1_)))) rfl)))) [] rfl))))
  ·
   have h0 : (Cn.q2o C L next).2.2.2 = 0 := by have := h0; omega
   refine Zk (Ft (Sq hcx [] [10, 11] [26, 7] [] [(((Cn.q2o C L next).1).length ≤ 1000000000)] ?_ (Zs (Sz hcx [] [37] [] [] (Zx (a := ((Cn.q0q ((Cn.q2o C L next).1) B).2)) (b := 0) (fun h1 => ?_) fun h1 => ?_)))))
   ·
    refine ap ?_ az
    omega
   ·
    have hr := Cn.z9n (g := g) h0 h1
    exact Sz hcx [] [4, 5, 6] [37, 10, 11, 8, 9, 2] [220, 602] (Zr (Fr (Fp 4 (.intss []) (Rv hcx (congrArg AV.tup (q0c (congrArg AV.intss (show [] = (Cn.z5k C L B g next).1 from (by first | (rw [hr]; done) | (rw [hr]; exact h1_)))) (q0c (congrArg AV.int (show 0 = (Cn.z5k C L B g next).2.1 from (by first | (rw [hr]; done) | (rw [hr]; exact h1_)))) (q0c (congrArg AV.int (show (Cn.q0q ((Cn.q2o C L next).1) B).2 = (Cn.z5k C L B g next).2.2 from (by first | (rw [hr]; done) | (rw [hr]; exact h1_)))) rfl)))) [] rfl))))
   ·
    have h1_ : (Cn.q0q (Cn.q2o C L next).1 B).2 = 0 := by have := h1; omega
    have hr := Cn.x1i (g := g) h0 h1_
    refine Zk (Ft (Sq hcx [(1005, .to 220)] [4, 5, 6] [37, 10, 11, 8, 9, 2] [220, 602] [(((Cn.q0q ((Cn.q2o C L next).1) B).1).length ≤ 1000000000 ∧ (∀ l ∈ ((Cn.q0q ((Cn.q2o C L next).1) B).1), l.length ≤ 1000000000) ∧ -65537 ≤ g ∧ g ≤ 65537), ((((Cn.q2o C L next).2.1).length + (Cn.grd g ((Cn.q0q ((Cn.q2o C L next).1) B).1)).length) * 24 ≤ 140737488355328)] ?_ (Zr (Fn [(220, .frz)] [4, 5, 6] (Rv hcx (congrArg AV.tup (q0c (congrArg AV.intss (show (((Cn.q2o C L next).2.1) ++ (Cn.grd g ((Cn.q0q ((Cn.q2o C L next).1) B).1))) = (Cn.z5k C L B g next).1 from (by first | (rw [hr]; done) | (rw [hr]; exact h1_)))) (q0c (congrArg AV.int (show (Cn.q2o C L next).2.2.1 = (Cn.z5k C L B g next).2.1 from (by first | (rw [hr]; done) | (rw [hr]; exact h1_)))) (q0c (congrArg AV.int (show (Cn.q0q ((Cn.q2o C L next).1) B).2 = (Cn.z5k C L B g next).2.2 from (by first | (rw [hr]; done) | (rw [hr]; exact h1_)))) rfl)))) [] rfl)))))
    ·
     refine ap ?_ (ap ?_ az) <;>
      first | exact ⟨by omega, fun x hx => by have := hll.2 x hx; omega, hg1, hg2⟩ | (rw [Cn.q4q]; omega)
 ·
  cases hσ
def j9a : Cx := ⟨q4j, [], true⟩
theorem j7g : q1g Tryz.prog j9a := q1b q1i trivial
def q6l : CtF
 | [], [] => some (True, .row 0, [some (.mfun [1, 2, 3, 4, 5, 6] [.clo 88 [], .clo 89 [], .clo 90 [], .clo 91 [], .clo 92 [], .clo 93 []])])
 | _, _ => none
theorem q3j : q0o Tryz.prog 39 q6l := by
 refine Sw (cx := j9a) Tryz.f39 Tryz.func39 ?_
 intro wW wO wβ G0 args os p r outs hσ hp
 have hcx := j7g
 unfold q6l at hσ
 split at hσ
 ·
  cases hσ
  refine ⟨by kernel_rfl, ?_⟩
  exact Sz hcx [] [] [] [] (Sz hcx [(1000, .to 201)] [0] [] [] (Zr (Fn [(201, .to 0)] [0] (Ru hcx [true]))))
 ·
  cases hσ
def j3a : Cx := ⟨q4j, [], true⟩
theorem j4i : q1g Tryz.prog j3a := q1b q1i trivial
def j1u : CtF
 | [.agg [.im (.ls (.ints C)), .im (.ls (.ints L)), .im (.val (.int .i64 B)), .im (.val .nilFunc)]], [] => some (Cn.q2u C B, .tup [.int (Cn.evK C B), .bool (Cn.evB C)], [])
 | _, _ => none
theorem j3q : q0o Tryz.prog 84 j1u := by
 refine Sw (cx := j3a) Tryz.f84 Tryz.func84 ?_
 intro wW wO wβ G0 args os p r outs hσ hp
 have hcx := j4i
 have hmx : Tryz.prog.follows .mixedOrders = true := by kernel_rfl
 unfold j1u at hσ
 split at hσ
 ·
  rename_i C L B
  cases hσ
  refine ⟨by kernel_rfl, ?_⟩
  have hn := hp
  have hl := hp.1
  have hb := Cn.y2v hp
  refine Sz hcx [(1000, .frz)] [1] [0] [] (Zs (Sz hcx [] [8, 9, 10] [] [] (Zb (Lp (X := Nat) (fun x0 => x0 ≤ C.length ∧ ∀ j, j < x0 → C.getD j 0 = C.getD 0 0) (fun x0 => ([(1, .pto [.ls (.ints C), .ls (.ints L), .int B, .val .nilFunc]), (8, .ints C), (9, .int (C.length : Int)), (10, .int (x0 : Int))], [])) (fun x0 => C.length - x0) (0) ?_ (Ex 10 (congrArg AV.int (show 0 = (0 : Int) from (by first | rfl | omega | (simp; done)))) Eb) Hb fun i hI => ?_))))
  ·
   exact ⟨Nat.zero_le _, fun j hj => by omega⟩
  ·
   try dsimp only at hI
   obtain ⟨hk, hok⟩ := hI
   refine Sz hcx [] [11] [] [] (Zs (Zj (p := ((i : Int) < (C.length : Int))) (fun h0 => ?_) fun h0 => ?_))
   ·
    refine Zk (Ft (Zs (Zb (Sq hcx [] [5] [11] [] [((0 : Int) ≤ (i : Int) ∧ (i : Int) < (C.length : Int))] ?_ (Sq hcx [] [20] [5] [] [((0 : Int) ≤ 0 ∧ 0 < (C.length : Int))] ?_ (Zi (b := (C.getD i 0) != (C.getD 0 0)) (fun h1 => ?_) fun h1 => ?_))))))
    ·
     refine ap ?_ az
     omega
    ·
     refine ap ?_ az
     omega
    ·
     replace h1 := bne_iff_ne.1 h1
     obtain ⟨e1, e2⟩ := Cn.k3r (B := B) (by omega) h1
     exact Sz hcx [] [2, 3] [20, 1, 8, 9, 10] [] (Zr (Fk (Fr (Fr (Fk (Fr (Rv hcx (congrArg AV.tup (q0c (congrArg AV.int (show 0 = (Cn.evK C B) from (by first | exact e1.symm | exact e2.symm | (rw [e1, e2]; done)))) (q0c (congrArg AV.bool (show false = (Cn.evB C) from (by first | exact e1.symm | exact e2.symm | (rw [e1, e2]; done)))) rfl))) [] rfl)))))))
    ·
     replace h1 := k0y h1
     have hq := h1
     refine Zk (Fb (Ft (Tq hcx [] [10] [20] [] [Fit ((i : Int) + 1)] ?_ (Lr (i + 1) ?_ ?_ (Ex 10 (congrArg AV.int (show ((i : Int) + 1) = ((i + 1) : Int) from (by first | rfl | omega | (simp; done)))) Eb) Hb))))
     ·
      refine ap ?_ az
      omega
     ·
      exact ⟨by omega, fun j hj => by rcases (by omega : j < i ∨ j = i) with h | rfl; exact hok j h; exact hq⟩
     ·
      show C.length - (i + 1) < C.length - i
      omega
   ·
    refine Ze (Fe (Fe (Fs (Ft (Zs (Sz hcx [] [26] [11, 8, 9, 10] [] (Zu (a := (C.length : Int)) (b := 0) (fun h2 => ?_) fun h2 => ?_)))))))
    ·
     obtain ⟨e1, e2⟩ := Cn.x5e (B := B) h2
     exact Sz hcx [] [2, 3] [26, 1] [] (Zr (Fr (Rv hcx (congrArg AV.tup (q0c (congrArg AV.int (show 0 = (Cn.evK C B) from (by first | exact e1.symm | exact e2.symm | (rw [e1, e2]; done)))) (q0c (congrArg AV.bool (show false = (Cn.evB C) from (by first | exact e1.symm | exact e2.symm | (rw [e1, e2]; done)))) rfl))) [] rfl)))
    ·
     have h26 := h2
     obtain ⟨e1, e2⟩ := Cn.x6q (B := B) (by omega) hok h26
     obtain ⟨c1, c2, c3, c4⟩ := Cn.k1u hn h26
     refine Zk (Ft (Sd hcx hmx [0, 1, 3, 7, 0, 16, 48, 112, 240, 511, 1023, 2047, 4095] [] [2, 3] [26, 1] [] [Fit (B - 1), ((0 : Int) ≤ 0 ∧ 0 < (C.length : Int)), (((C.getD 0 0) : Int) ≠ 0 ∧ Fit ((B - 1).tdiv (C.getD 0 0))), Fit (((B - 1).tdiv (C.getD 0 0)) + 1)] ?_ (Zr (Rv hcx (congrArg AV.tup (q0c (congrArg AV.int (show (((B - 1).tdiv (C.getD 0 0)) + 1) = (Cn.evK C B) from (by first | exact e1.symm | exact e2.symm | (rw [e1, e2]; done)))) (q0c (congrArg AV.bool (show true = (Cn.evB C) from (by first | exact e1.symm | exact e2.symm | (rw [e1, e2]; done)))) rfl))) [] rfl))))
     ·
      refine ap ?_ (ap ?_ (ap ?_ (ap ?_ az))) <;>
       omega
 ·
  cases hσ
def y1g : Cx := ⟨q4j, [(84, (orF (q2g [.agg [.ld (.ints []), .ld (.ints []), .id, .id]] z0p) (q2g [.agg [.ld (.ints []), .ld (.ints []), .id, .id]] j1u)))], true⟩
theorem j7l : q1g Tryz.prog y1g := q1b q1i ⟨((q5l.coe [.agg [.ld (.ints []), .ld (.ints []), .id, .id]] rfl).or (j3q.coe [.agg [.ld (.ints []), .ld (.ints []), .id, .id]] rfl)), trivial⟩
def j8h : CtF
 | [.agg [.im (.ls (.ints C)), .im (.ls (.ints L)), .im (.val (.int .i64 B)), .im (.val .nilFunc)]], [] => some (Cn.q2u C B, .int (Cn.q1q C B), [])
 | _, _ => none
theorem j8p : q0o Tryz.prog 34 j8h := by
 refine Sw (cx := y1g) Tryz.f34 Tryz.func34 ?_
 intro wW wO wβ G0 args os p r outs hσ hp
 have hcx := j7l
 have hmx : Tryz.prog.follows .mixedOrders = true := by kernel_rfl
 unfold j8h at hσ
 split at hσ
 ·
  rename_i C L B
  cases hσ
  refine ⟨by kernel_rfl, ?_⟩
  have hn := hp
  have hl := hp.1
  have hb := Cn.y2v hp
  have hnk := fun h => Cn.x9t hn h
  have hfe := fun h => (Cn.q6g hn h).1
  refine Sz hcx [(1000, .frz)] [1] [0] [] (Sq hcx [] [3, 4] [] [] [(Cn.q2u C B)] ?_ (Zs (Sz hcx [] [5] [] [] (Zb (Sq hcx [] [15] [] [] [(((C.length : Int) == 0) = true → (((C.length : Int) == 0) = true)), (((C.length : Int) == 0) = true → (((C.length : Int) == 0) = true)), (((C.length : Int) == 0) = true → (((C.length : Int) == 0) = true)), (((C.length : Int) == 0) = true → ((C.length : Int) == 0) = true)] ?_ (Zi (b := ((C.length : Int) == 0) && (B == 0)) (fun h0 => ?_) fun h0 => ?_))))))
  ·
   refine ap ?_ az
   omega
  ·
   refine ap ?_ (ap ?_ (ap ?_ (ap (by exact id) az))) <;>
    exact id
  ·
   have hr := Cn.k8a h0
   exact Sz hcx [] [2] [15, 5, 3, 4, 1] [] (Zr (Fk (Fr (Rv hcx (congrArg AV.int (show 5 = (Cn.q1q C B) from (by exact hr.symm))) [] rfl))))
  ·
   have h5_ := h0
   refine Sz hcx [] [24] [15] [] (Zu (a := (C.length : Int)) (b := 0) (fun h1 => ?_) fun h1 => ?_)
   ·
    have hr := Cn.k8n h5_ h1
    exact Sz hcx [] [2] [24, 5, 3, 4, 1] [] (Zr (Fk (Fr (Rv hcx (congrArg AV.int (show 6 = (Cn.q1q C B) from (by exact hr.symm))) [] rfl))))
   ·
    have h6_ := h1
    refine Sd hcx hmx [0, 1, 3, 7, 15, 31, 63, 3, 131, 387, 1023, 2047, 4095] [] [27] [24, 1] [] [((Cn.evB C) = true → ((Cn.evB C) = true)), ((Cn.evB C) = true → ((Cn.evB C) = true)), ((Cn.evB C) = true → ((Cn.evB C) = true)), ((Cn.evB C) = true → ((0 : Int) ≤ 0 ∧ 0 < (C.length : Int))), ((Cn.evB C) = true → ((Cn.evB C) = true)), ((Cn.evB C) = true → ((Cn.evB C) = true)), ((Cn.evB C) = true → ((Cn.evB C) = true)), ((Cn.evB C) = true → ((Cn.evB C) = true)), ((Cn.evB C) = true → ((Cn.evB C) = true)), ((Cn.evB C) = true → (Cn.evB C) = true)] ?_ (Zi (b := (Cn.evB C) && ((C.getD 0 0) == B)) (fun h2 => ?_) fun h2 => ?_)
    ·
     refine ap ?_ (ap ?_ (ap ?_ (ap ?_ (ap ?_ (ap ?_ (ap ?_ (ap ?_ (ap ?_ (ap (by exact id) az))))))))) <;>
      first | omega | exact id
    ·
     have hr := Cn.k8w h6_ h2
     exact Sz hcx [] [2] [27, 5, 3, 4] [] (Zr (Fk (Fr (Rv hcx (congrArg AV.int (show 1 = (Cn.q1q C B) from (by exact hr.symm))) [] rfl))))
    ·
     have h1_ := h2
     refine Sq hcx [] [40] [27] [] [((Cn.evB C) = true → ((Cn.evB C) = true)), ((Cn.evB C) = true → (Cn.evB C) = true)] ?_ (Zi (b := (Cn.evB C) && (decide ((C.length : Int) ≤ 10))) (fun h3 => ?_) fun h3 => ?_)
     ·
      refine ap ?_ (ap (by exact id) az)
      exact id
     ·
      have hr := Cn.k8v h6_ h1_ h3
      exact Sz hcx [] [2] [40, 5, 3, 4] [] (Zr (Fk (Fr (Rv hcx (congrArg AV.int (show 2 = (Cn.q1q C B) from (by exact hr.symm))) [] rfl))))
     ·
      have h2_ := h3
      refine Sq hcx [] [46] [40, 5, 3, 4] [] [((Cn.evB C) = true → ((Cn.evB C) = true)), ((Cn.evB C) = true → ((Cn.evB C) = true)), ((Cn.evB C) = true → Fit ((C.length : Int) * (Cn.evK C B))), ((Cn.evB C) = true → ((Cn.evB C) = true)), ((Cn.evB C) = true → (Cn.evB C) = true)] ?_ (Zi (b := (Cn.evB C) && (decide (((C.length : Int) * (Cn.evK C B)) ≤ 400))) (fun h4 => ?_) fun h4 => ?_)
      ·
       refine ap ?_ (ap ?_ (ap ?_ (ap ?_ (ap (by exact id) az)))) <;>
        first | exact id | (intro h8; have h9 := hnk h8; constructor <;> omega)
      ·
       have hr := Cn.k7u h6_ h1_ h2_ h4
       exact Sz hcx [] [2] [46] [] (Zr (Fk (Fr (Rv hcx (congrArg AV.int (show 3 = (Cn.q1q C B) from (by exact hr.symm))) [] rfl))))
      ·
       have hr := Cn.k7w h6_ h1_ h2_ h4
       exact Zk (Fb (Ft (Sz hcx [] [2] [46] [] (Zr (Rv hcx (congrArg AV.int (show 4 = (Cn.q1q C B) from (by exact hr.symm))) [] rfl)))))
 ·
  cases hσ
def y6p : Cx := ⟨q4j, [(34, (orF (q2g [.agg [.ld (.ints []), .ld (.ints []), .id, .id]] y8y) (q2g [.agg [.ld (.ints []), .ld (.ints []), .id, .id]] j8h))), (22, (q2g [.agg [.ld (.ints []), .ld (.ints []), .id], .id] z2m.up)), (33, (q2g [.agg [.ld (.ints []), .ld (.ints []), .id]] j0h.up))], true⟩
theorem y4i : q1g Tryz.prog y6p := q1b q1i ⟨((z7e.coe [.agg [.ld (.ints []), .ld (.ints []), .id, .id]] rfl).or (j8p.coe [.agg [.ld (.ints []), .ld (.ints []), .id, .id]] rfl)), (z2c.up.coe [.agg [.ld (.ints []), .ld (.ints []), .id], .id] rfl), (z3q.up.coe [.agg [.ld (.ints []), .ld (.ints []), .id]] rfl), trivial⟩
def y5c : CtF
 | [.agg [.im (.ls (.ints C)), .im (.ls (.ints L)), .im (.val (.int .i64 B))]], [] => some (True, .tup [.int ((Cn.z3p C L B).1), .int ((Cn.z3p C L B).2)], [])
 | _, _ => none
theorem y3w : q0o Tryz.prog 10 y5c := by
 refine Sw (cx := y6p) Tryz.f10 Tryz.func10 ?_
 intro wW wO wβ G0 args os p r outs hσ hp
 have hcx := y4i
 unfold y5c at hσ
 split at hσ
 ·
  rename_i C L B
  cases hσ
  refine ⟨by kernel_rfl, ?_⟩
  refine Sz hcx [(1000, .frz)] [1] [0] [] (Zs (Sq hcx [] [4] [] [] [(True)] ?_ (Sz hcx [] [8] [] [] (Zx (a := (q0m ⟨C, L, B⟩ (65536 : Int))) (b := 0) (fun h0 => ?_) fun h0 => ?_))))
  ·
   refine ap ?_ az
   omega
  ·
   have hr : Cn.z3p C L B = (0, q0m ⟨C, L, B⟩ 65536) := if_pos h0
   exact Sz hcx [] [2, 3] [8, 4, 1] [] (Zr (Fr (Rv hcx (congrArg AV.tup (q0c (congrArg AV.int (show 0 = (Cn.z3p C L B).1 from (by (rw [hr]; done)))) (q0c (congrArg AV.int (show q0m ⟨C, L, B⟩ (65536 : Int) = (Cn.z3p C L B).2 from (by (rw [hr]; done)))) rfl))) [] rfl)))
  ·
   have h0 : q0m ⟨C, L, B⟩ 65536 = 0 := by have := h0; omega
   have hr : Cn.z3p C L B = (Cn.q1q (q0b ⟨C, L, B⟩).C (q0b ⟨C, L, B⟩).B, 0) := if_neg (fun q => q h0)
   obtain ⟨n1, n2, n3⟩ := Cn.z3o h0
   refine Zk (Ft (Sq hcx [] [2, 3] [8, 4, 1] [] [(True), (Cn.q2u ((q0b ⟨C, L, B⟩).C) ((q0b ⟨C, L, B⟩).B))] ?_ (Zr (Rv hcx (congrArg AV.tup (q0c (congrArg AV.int (show (Cn.q1q ((q0b ⟨C, L, B⟩).C) ((q0b ⟨C, L, B⟩).B)) = (Cn.z3p C L B).1 from (by (rw [hr]; done)))) (q0c (congrArg AV.int (show 0 = (Cn.z3p C L B).2 from (by (rw [hr]; done)))) rfl))) [] rfl))))
   ·
    refine ap ?_ (ap ?_ az) <;>
     omega
 ·
  cases hσ
def q7c (k : Int) : CtF
 | [.agg [.im (.ls (.ints C)), .im (.ls (.ints L)), .im (.val (.int .i64 B)), .clo 38 [.pto [.val (.int .i64 g)]]]], [] => some (Cn.q2u C B ∧ Cn.q1q C B = k, .int k, [])
 | _, _ => none
theorem q3f (k : Int) : q0o Tryz.prog 34 (q7c k) := z7e.weak fun args os p r outs h => by
 unfold q7c at h
 split at h
 · simp only [Option.some.injEq, Prod.mk.injEq] at h
   obtain ⟨rfl, rfl, rfl⟩ := h
   exact ⟨_, _, rfl, fun hp => ⟨hp.1, by rw [hp.2]⟩⟩
 · cases h
def k8f : Cx := ⟨q4j, [(34, (q2g [.agg [.ld (.ints []), .ld (.ints []), .id, .id]] (q7c 1))), (88, (q2g [.agg [.ld (.ints []), .ld (.ints []), .id, .id], .id] z5e)), (39, q6l)], true⟩
theorem x8m : q1g Tryz.prog k8f := q1b q1i ⟨((q3f 1).coe [.agg [.ld (.ints []), .ld (.ints []), .id, .id]] rfl), (z8w.coe [.agg [.ld (.ints []), .ld (.ints []), .id, .id], .id] rfl), q3j, trivial⟩
def k8r : Cx := ⟨q4j, [(34, (q2g [.agg [.ld (.ints []), .ld (.ints []), .id, .id]] (q7c 2))), (89, (q2g [.agg [.ld (.ints []), .ld (.ints []), .id, .id], .id] z9p)), (39, q6l)], true⟩
theorem x7v : q1g Tryz.prog k8r := q1b q1i ⟨((q3f 2).coe [.agg [.ld (.ints []), .ld (.ints []), .id, .id]] rfl), (j5x.coe [.agg [.ld (.ints []), .ld (.ints []), .id, .id], .id] rfl), q3j, trivial⟩
def k8b : Cx := ⟨q4j, [(34, (q2g [.agg [.ld (.ints []), .ld (.ints []), .id, .id]] (q7c 3))), (90, (q2g [.agg [.ld (.ints []), .ld (.ints []), .id, .id], .id] j1o)), (39, q6l)], true⟩
theorem x7s : q1g Tryz.prog k8b := q1b q1i ⟨((q3f 3).coe [.agg [.ld (.ints []), .ld (.ints []), .id, .id]] rfl), (j3d.coe [.agg [.ld (.ints []), .ld (.ints []), .id, .id], .id] rfl), q3j, trivial⟩
def k8c : Cx := ⟨q4j, [(34, (q2g [.agg [.ld (.ints []), .ld (.ints []), .id, .id]] (q7c 4))), (91, (q2g [.agg [.ld (.ints []), .ld (.ints []), .id, .id], .id] y9y)), (39, q6l)], true⟩
theorem x6z : q1g Tryz.prog k8c := q1b q1i ⟨((q3f 4).coe [.agg [.ld (.ints []), .ld (.ints []), .id, .id]] rfl), (y3m.coe [.agg [.ld (.ints []), .ld (.ints []), .id, .id], .id] rfl), q3j, trivial⟩
def k8j : Cx := ⟨q4j, [(34, (q2g [.agg [.ld (.ints []), .ld (.ints []), .id, .id]] (q7c 5))), (92, (q2g [.agg [.ld (.ints []), .ld (.ints []), .id, .id], .id] z0z)), (39, q6l)], true⟩
theorem x9k : q1g Tryz.prog k8j := q1b q1i ⟨((q3f 5).coe [.agg [.ld (.ints []), .ld (.ints []), .id, .id]] rfl), (z6a.coe [.agg [.ld (.ints []), .ld (.ints []), .id, .id], .id] rfl), q3j, trivial⟩
def k8t : Cx := ⟨q4j, [(34, (q2g [.agg [.ld (.ints []), .ld (.ints []), .id, .id]] (q7c 6))), (93, (q2g [.agg [.ld (.ints []), .ld (.ints []), .id, .id], .id] j1x)), (39, q6l)], true⟩
theorem k0i : q1g Tryz.prog k8t := q1b q1i ⟨((q3f 6).coe [.agg [.ld (.ints []), .ld (.ints []), .id, .id]] rfl), (j6h.coe [.agg [.ld (.ints []), .ld (.ints []), .id, .id], .id] rfl), q3j, trivial⟩
def y9d : Cx := ⟨q4j, [(22, (q2g [.agg [.ld (.ints []), .ld (.ints []), .id], .id] z2m.up)), (33, (q2g [.agg [.ld (.ints []), .ld (.ints []), .id]] j0h.up))], true⟩
theorem y3y : q1g Tryz.prog y9d := q1b q1i ⟨(z2c.up.coe [.agg [.ld (.ints []), .ld (.ints []), .id], .id] rfl), (z3q.up.coe [.agg [.ld (.ints []), .ld (.ints []), .id]] rfl), trivial⟩
def j2o : CtF
 | [.agg [.im (.ls (.ints C)), .im (.ls (.ints L)), .im (.val (.int .i64 B))], .im (.val (.int .i64 g)), .im (.val (.int .i64 next))], [] => some (Fit g ∧ Fit next, .tup [.intss ((Cn.q0e C L B g next).1), .int ((Cn.q0e C L B g next).2.1), .int ((Cn.q0e C L B g next).2.2)], [])
 | _, _ => none
theorem z0r : q0o Tryz.prog 12 j2o := by
 refine Sw (cx := y9d) Tryz.f12 Tryz.func12 ?_
 intro wW wO wβ G0 args os p r outs hσ hp
 have hcx := y3y
 have hmx : Tryz.prog.follows .mixedOrders = true := by kernel_rfl
 unfold j2o at hσ
 split at hσ
 ·
  rename_i C L B g next
  cases hσ
  refine ⟨by kernel_rfl, ?_⟩
  obtain ⟨hf1, hf2⟩ := hp
  refine Sz hcx [(1000, .frz), (1001, .frz)] [3, 4] [0, 1] [] (Zs (Sq hcx [] [15] [] [] [((!(decide (next < 1))) = true → ((!(decide (next < 1))) = true)), ((decide (next < 1)) = false → (!(decide (next < 1))) = true)] ?_ (Zi (b := (decide (next < 1)) || (decide (next > 65537))) (fun h0 => ?_) fun h0 => ?_)))
  ·
   refine ap ?_ (ap (by exact q1v) az)
   exact id
  ·
   have hr := Cn.j9v (C := C) (L := L) (B := B) (g := g) (Cn.k6a.1 h0)
   exact Sz hcx [] [6, 7, 8] [15, 3, 4, 2] [] (Zr (Fr (Fp 6 (.intss []) (Rv hcx (congrArg AV.tup (q0c (congrArg AV.intss (show [] = (Cn.q0e C L B g next).1 from (by first | (rw [hr]; done) | (rw [hr, Cn.q9g hk]; done) | (rw [hr, Cn.q8z hk]; done) | (rw [hr, Cn.q9c hk]; done) | (rw [hr, Cn.q8h hk]; done) | (rw [hr, Cn.q9h hk]; done) | (rw [hr, Cn.q9f hk]; done)))) (q0c (congrArg AV.int (show 0 = (Cn.q0e C L B g next).2.1 from (by first | (rw [hr]; done) | (rw [hr, Cn.q9g hk]; done) | (rw [hr, Cn.q8z hk]; done) | (rw [hr, Cn.q9c hk]; done) | (rw [hr, Cn.q8h hk]; done) | (rw [hr, Cn.q9h hk]; done) | (rw [hr, Cn.q9f hk]; done)))) (q0c (congrArg AV.int (show 1 = (Cn.q0e C L B g next).2.2 from (by first | (rw [hr]; done) | (rw [hr, Cn.q9g hk]; done) | (rw [hr, Cn.q8z hk]; done) | (rw [hr, Cn.q9c hk]; done) | (rw [hr, Cn.q8h hk]; done) | (rw [hr, Cn.q9h hk]; done) | (rw [hr, Cn.q9f hk]; done)))) rfl)))) [] rfl))))
  ·
   have h15_ := Cn.x8g h0
   refine Zk (Ft (Zs (Sq hcx [] [8] [15] [] [Fit (next - 1), (True)] ?_ (Sz hcx [] [21] [] [] (Zx (a := (q0m ⟨C, L, B⟩ (next - 1))) (b := 0) (fun h1 => ?_) fun h1 => ?_)))))
   ·
    refine ap ?_ (ap ?_ az) <;>
     first | omega | exact True.intro
   ·
    have hr := Cn.j9b (g := g) h15_ h1
    exact Sz hcx [] [6, 7, 8] [21, 3, 4, 2] [] (Zr (Fr (Fp 6 (.intss []) (Rv hcx (congrArg AV.tup (q0c (congrArg AV.intss (show [] = (Cn.q0e C L B g next).1 from (by first | (rw [hr]; done) | (rw [hr, Cn.q9g hk]; done) | (rw [hr, Cn.q8z hk]; done) | (rw [hr, Cn.q9c hk]; done) | (rw [hr, Cn.q8h hk]; done) | (rw [hr, Cn.q9h hk]; done) | (rw [hr, Cn.q9f hk]; done)))) (q0c (congrArg AV.int (show 0 = (Cn.q0e C L B g next).2.1 from (by first | (rw [hr]; done) | (rw [hr, Cn.q9g hk]; done) | (rw [hr, Cn.q8z hk]; done) | (rw [hr, Cn.q9c hk]; done) | (rw [hr, Cn.q8h hk]; done) | (rw [hr, Cn.q9h hk]; done) | (rw [hr, Cn.q9f hk]; done)))) (q0c (congrArg AV.int (show q0m ⟨C, L, B⟩ (next - 1) = (Cn.q0e C L B g next).2.2 from (by first | (rw [hr]; done) | (rw [hr, Cn.q9g hk]; done) | (rw [hr, Cn.q8z hk]; done) | (rw [hr, Cn.q9c hk]; done) | (rw [hr, Cn.q8h hk]; done) | (rw [hr, Cn.q9h hk]; done) | (rw [hr, Cn.q9f hk]; done)))) rfl)))) [] rfl))))
   ·
    have h21_ : q0m ⟨C, L, B⟩ (next - 1) = 0 := by have := h1; omega
    obtain ⟨n1, n2, n3⟩ := Cn.z3o h21_
    refine Zk (Ft (Zs (Sq hcx [] [31] [21, 8] [] [((!(decide (g ≥ next))) = true → ((!(decide (g ≥ next))) = true)), ((!(decide (g ≥ next))) = true → Fit (-next)), ((!(decide (g ≥ next))) = true → ((!(decide (g ≥ next))) = true)), ((!(decide (g ≥ next))) = true → ((!(decide (g ≥ next))) = true)), ((decide (g ≥ next)) = false → (!(decide (g ≥ next))) = true)] ?_ (Zi (b := (decide (g ≥ next)) || (decide (g ≤ (-next)))) (fun h2 => ?_) fun h2 => ?_))))
    ·
     refine ap ?_ (ap ?_ (ap ?_ (ap ?_ (ap (by exact q1v) az)))) <;>
      first | omega | exact id
    ·
     have hr := Cn.y1a h15_ h21_ (Cn.k8p.1 h2)
     exact Sz hcx [] [6, 7, 8] [31, 3, 4, 2] [] (Zr (Fr (Fp 6 (.intss []) (Rv hcx (congrArg AV.tup (q0c (congrArg AV.intss (show [] = (Cn.q0e C L B g next).1 from (by first | (rw [hr]; done) | (rw [hr, Cn.q9g hk]; done) | (rw [hr, Cn.q8z hk]; done) | (rw [hr, Cn.q9c hk]; done) | (rw [hr, Cn.q8h hk]; done) | (rw [hr, Cn.q9h hk]; done) | (rw [hr, Cn.q9f hk]; done)))) (q0c (congrArg AV.int (show 0 = (Cn.q0e C L B g next).2.1 from (by first | (rw [hr]; done) | (rw [hr, Cn.q9g hk]; done) | (rw [hr, Cn.q8z hk]; done) | (rw [hr, Cn.q9c hk]; done) | (rw [hr, Cn.q8h hk]; done) | (rw [hr, Cn.q9h hk]; done) | (rw [hr, Cn.q9f hk]; done)))) (q0c (congrArg AV.int (show 140 = (Cn.q0e C L B g next).2.2 from (by first | (rw [hr]; done) | (rw [hr, Cn.q9g hk]; done) | (rw [hr, Cn.q8z hk]; done) | (rw [hr, Cn.q9c hk]; done) | (rw [hr, Cn.q8h hk]; done) | (rw [hr, Cn.q9h hk]; done) | (rw [hr, Cn.q9f hk]; done)))) rfl)))) [] rfl))))
    ·
     have h31_ := Cn.k7n h2
     have hr := Cn.x4j h15_ h21_ h31_
     refine Zk (Ft (Sq hcx [(1004, .to 609)] [9] [31, 3, 4] [] [(True)] ?_ (Zs ?_)))
     ·
      refine ap ?_ az
      exact True.intro
     rcases ((Cn.j0g (q0b ⟨C, L, B⟩).C (q0b ⟨C, L, B⟩).B) : Cn.q1q (q0b ⟨C, L, B⟩).C (q0b ⟨C, L, B⟩).B = 1 ∨ Cn.q1q (q0b ⟨C, L, B⟩).C (q0b ⟨C, L, B⟩).B = 2 ∨ Cn.q1q (q0b ⟨C, L, B⟩).C (q0b ⟨C, L, B⟩).B = 3 ∨ Cn.q1q (q0b ⟨C, L, B⟩).C (q0b ⟨C, L, B⟩).B = 4 ∨ Cn.q1q (q0b ⟨C, L, B⟩).C (q0b ⟨C, L, B⟩).B = 5 ∨ Cn.q1q (q0b ⟨C, L, B⟩).C (q0b ⟨C, L, B⟩).B = 6) with hk | hk | hk | hk | hk | hk
     ·
      refine Tcd k8f x8m hmx [0, 0, 3, 7, 0, 0, 63, 127, 127, 127, 1023, 2047, 4095] [(1006, .to 242)] [6, 7, 8] [9, 2] [609] [(True), (Cn.q2u ((q0b ⟨C, L, B⟩).C) ((q0b ⟨C, L, B⟩).B) ∧ Cn.q1q ((q0b ⟨C, L, B⟩).C) ((q0b ⟨C, L, B⟩).B) = 1), (((q0b ⟨C, L, B⟩).L).length ≤ 1000000 ∧ -65537 ≤ g ∧ g ≤ 65537)] ?_ ?_
      ·
       refine ap ?_ (ap ?_ (ap ?_ az)) <;>
        first | exact True.intro | exact ⟨n1, hk⟩ | exact ⟨by have := n1.1; omega, by omega, by omega⟩
      exact Ft (Zr (Fn [(242, .frz)] [6, 7, 8] (Rv hcx (congrArg AV.tup (q0c (congrArg AV.intss (show (Cn.grd g [((q0b ⟨C, L, B⟩).L)]) = (Cn.q0e C L B g next).1 from (by first | (rw [hr]; done) | (rw [hr, Cn.q9g hk]; done) | (rw [hr, Cn.q8z hk]; done) | (rw [hr, Cn.q9c hk]; done) | (rw [hr, Cn.q8h hk]; done) | (rw [hr, Cn.q9h hk]; done) | (rw [hr, Cn.q9f hk]; done)))) (q0c (congrArg AV.int (show next = (Cn.q0e C L B g next).2.1 from (by first | (rw [hr]; done) | (rw [hr, Cn.q9g hk]; done) | (rw [hr, Cn.q8z hk]; done) | (rw [hr, Cn.q9c hk]; done) | (rw [hr, Cn.q8h hk]; done) | (rw [hr, Cn.q9h hk]; done) | (rw [hr, Cn.q9f hk]; done)))) (q0c (congrArg AV.int (show 0 = (Cn.q0e C L B g next).2.2 from (by first | (rw [hr]; done) | (rw [hr, Cn.q9g hk]; done) | (rw [hr, Cn.q8z hk]; done) | (rw [hr, Cn.q9c hk]; done) | (rw [hr, Cn.q8h hk]; done) | (rw [hr, Cn.q9h hk]; done) | (rw [hr, Cn.q9f hk]; done)))) rfl)))) [] rfl)))
     ·
      refine Tcd k8r x7v hmx [0, 0, 3, 7, 0, 0, 63, 127, 127, 127, 1023, 2047, 4095] [] [6, 7, 8] [9, 2] [609] [(True), (Cn.q2u ((q0b ⟨C, L, B⟩).C) ((q0b ⟨C, L, B⟩).B) ∧ Cn.q1q ((q0b ⟨C, L, B⟩).C) ((q0b ⟨C, L, B⟩).B) = 2), (Cn.q2u ((q0b ⟨C, L, B⟩).C) ((q0b ⟨C, L, B⟩).B) ∧ Cn.evB ((q0b ⟨C, L, B⟩).C) = true ∧ ((q0b ⟨C, L, B⟩).L).length = ((q0b ⟨C, L, B⟩).C).length ∧ (∀ x ∈ ((q0b ⟨C, L, B⟩).L), x ≠ 0 ∧ -65536 ≤ x ∧ x ≤ 65536) ∧ Fit next ∧ -65537 ≤ g ∧ g ≤ 65537)] ?_ ?_
      ·
       refine ap ?_ (ap ?_ (ap ?_ az)) <;>
        first | exact True.intro | exact ⟨n1, hk⟩ | exact ⟨n1, Cn.j5j (.inl hk), n2, n3, hf2, by omega, by omega⟩
      exact Ft (Zr (Rv hcx (congrArg AV.tup (q0c (congrArg AV.intss (show (Cn.j2e ((q0b ⟨C, L, B⟩).C) ((q0b ⟨C, L, B⟩).L) ((q0b ⟨C, L, B⟩).B) g next).1 = (Cn.q0e C L B g next).1 from (by first | (rw [hr]; done) | (rw [hr, Cn.q9g hk]; done) | (rw [hr, Cn.q8z hk]; done) | (rw [hr, Cn.q9c hk]; done) | (rw [hr, Cn.q8h hk]; done) | (rw [hr, Cn.q9h hk]; done) | (rw [hr, Cn.q9f hk]; done)))) (q0c (congrArg AV.int (show (Cn.j2e ((q0b ⟨C, L, B⟩).C) ((q0b ⟨C, L, B⟩).L) ((q0b ⟨C, L, B⟩).B) g next).2.1 = (Cn.q0e C L B g next).2.1 from (by first | (rw [hr]; done) | (rw [hr, Cn.q9g hk]; done) | (rw [hr, Cn.q8z hk]; done) | (rw [hr, Cn.q9c hk]; done) | (rw [hr, Cn.q8h hk]; done) | (rw [hr, Cn.q9h hk]; done) | (rw [hr, Cn.q9f hk]; done)))) (q0c (congrArg AV.int (show (Cn.j2e ((q0b ⟨C, L, B⟩).C) ((q0b ⟨C, L, B⟩).L) ((q0b ⟨C, L, B⟩).B) g next).2.2 = (Cn.q0e C L B g next).2.2 from (by first | (rw [hr]; done) | (rw [hr, Cn.q9g hk]; done) | (rw [hr, Cn.q8z hk]; done) | (rw [hr, Cn.q9c hk]; done) | (rw [hr, Cn.q8h hk]; done) | (rw [hr, Cn.q9h hk]; done) | (rw [hr, Cn.q9f hk]; done)))) rfl)))) [] rfl))
     ·
      refine Tcd k8b x7s hmx [0, 0, 3, 7, 0, 0, 63, 127, 127, 127, 1023, 2047, 4095] [] [6, 7, 8] [9, 2] [609] [(True), (Cn.q2u ((q0b ⟨C, L, B⟩).C) ((q0b ⟨C, L, B⟩).B) ∧ Cn.q1q ((q0b ⟨C, L, B⟩).C) ((q0b ⟨C, L, B⟩).B) = 3), (Cn.q2u ((q0b ⟨C, L, B⟩).C) ((q0b ⟨C, L, B⟩).B) ∧ Cn.evB ((q0b ⟨C, L, B⟩).C) = true ∧ ((q0b ⟨C, L, B⟩).L).length = ((q0b ⟨C, L, B⟩).C).length ∧ (∀ x ∈ ((q0b ⟨C, L, B⟩).L), x ≠ 0 ∧ -65536 ≤ x ∧ x ≤ 65536) ∧ Fit next ∧ -65537 ≤ g ∧ g ≤ 65537)] ?_ ?_
      ·
       refine ap ?_ (ap ?_ (ap ?_ az)) <;>
        first | exact True.intro | exact ⟨n1, hk⟩ | exact ⟨n1, Cn.j5j (.inr hk), n2, n3, hf2, by omega, by omega⟩
      exact Ft (Zr (Rv hcx (congrArg AV.tup (q0c (congrArg AV.intss (show (Cn.j2f ((q0b ⟨C, L, B⟩).C) ((q0b ⟨C, L, B⟩).L) ((q0b ⟨C, L, B⟩).B) g next).1 = (Cn.q0e C L B g next).1 from (by first | (rw [hr]; done) | (rw [hr, Cn.q9g hk]; done) | (rw [hr, Cn.q8z hk]; done) | (rw [hr, Cn.q9c hk]; done) | (rw [hr, Cn.q8h hk]; done) | (rw [hr, Cn.q9h hk]; done) | (rw [hr, Cn.q9f hk]; done)))) (q0c (congrArg AV.int (show (Cn.j2f ((q0b ⟨C, L, B⟩).C) ((q0b ⟨C, L, B⟩).L) ((q0b ⟨C, L, B⟩).B) g next).2.1 = (Cn.q0e C L B g next).2.1 from (by first | (rw [hr]; done) | (rw [hr, Cn.q9g hk]; done) | (rw [hr, Cn.q8z hk]; done) | (rw [hr, Cn.q9c hk]; done) | (rw [hr, Cn.q8h hk]; done) | (rw [hr, Cn.q9h hk]; done) | (rw [hr, Cn.q9f hk]; done)))) (q0c (congrArg AV.int (show (Cn.j2f ((q0b ⟨C, L, B⟩).C) ((q0b ⟨C, L, B⟩).L) ((q0b ⟨C, L, B⟩).B) g next).2.2 = (Cn.q0e C L B g next).2.2 from (by first | (rw [hr]; done) | (rw [hr, Cn.q9g hk]; done) | (rw [hr, Cn.q8z hk]; done) | (rw [hr, Cn.q9c hk]; done) | (rw [hr, Cn.q8h hk]; done) | (rw [hr, Cn.q9h hk]; done) | (rw [hr, Cn.q9f hk]; done)))) rfl)))) [] rfl))
     ·
      refine Tcd k8c x6z hmx [0, 0, 3, 7, 0, 0, 63, 127, 127, 127, 1023, 2047, 4095] [] [6, 7, 8] [9, 2] [609] [(True), (Cn.q2u ((q0b ⟨C, L, B⟩).C) ((q0b ⟨C, L, B⟩).B) ∧ Cn.q1q ((q0b ⟨C, L, B⟩).C) ((q0b ⟨C, L, B⟩).B) = 4), (((q0b ⟨C, L, B⟩).C).length ≤ 4096 ∧ ((q0b ⟨C, L, B⟩).L).length = ((q0b ⟨C, L, B⟩).C).length ∧ -65537 ≤ g ∧ g ≤ 65537)] ?_ ?_
      ·
       refine ap ?_ (ap ?_ (ap ?_ az)) <;>
        first | exact True.intro | exact ⟨n1, hk⟩ | exact ⟨n1.1, n2, by omega, by omega⟩
      exact Ft (Zr (Rv hcx (congrArg AV.tup (q0c (congrArg AV.intss (show (Cn.z5k ((q0b ⟨C, L, B⟩).C) ((q0b ⟨C, L, B⟩).L) ((q0b ⟨C, L, B⟩).B) g next).1 = (Cn.q0e C L B g next).1 from (by first | (rw [hr]; done) | (rw [hr, Cn.q9g hk]; done) | (rw [hr, Cn.q8z hk]; done) | (rw [hr, Cn.q9c hk]; done) | (rw [hr, Cn.q8h hk]; done) | (rw [hr, Cn.q9h hk]; done) | (rw [hr, Cn.q9f hk]; done)))) (q0c (congrArg AV.int (show (Cn.z5k ((q0b ⟨C, L, B⟩).C) ((q0b ⟨C, L, B⟩).L) ((q0b ⟨C, L, B⟩).B) g next).2.1 = (Cn.q0e C L B g next).2.1 from (by first | (rw [hr]; done) | (rw [hr, Cn.q9g hk]; done) | (rw [hr, Cn.q8z hk]; done) | (rw [hr, Cn.q9c hk]; done) | (rw [hr, Cn.q8h hk]; done) | (rw [hr, Cn.q9h hk]; done) | (rw [hr, Cn.q9f hk]; done)))) (q0c (congrArg AV.int (show (Cn.z5k ((q0b ⟨C, L, B⟩).C) ((q0b ⟨C, L, B⟩).L) ((q0b ⟨C, L, B⟩).B) g next).2.2 = (Cn.q0e C L B g next).2.2 from (by first | (rw [hr]; done) | (rw [hr, Cn.q9g hk]; done) | (rw [hr, Cn.q8z hk]; done) | (rw [hr, Cn.q9c hk]; done) | (rw [hr, Cn.q8h hk]; done) | (rw [hr, Cn.q9h hk]; done) | (rw [hr, Cn.q9f hk]; done)))) rfl)))) [] rfl))
     ·
      refine Tcd k8j x9k hmx [0, 0, 3, 7, 0, 0, 63, 127, 127, 127, 1023, 2047, 4095] [] [6, 7, 8] [9, 2] [609] [(True), (Cn.q2u ((q0b ⟨C, L, B⟩).C) ((q0b ⟨C, L, B⟩).B) ∧ Cn.q1q ((q0b ⟨C, L, B⟩).C) ((q0b ⟨C, L, B⟩).B) = 5), (True)] ?_ ?_
      ·
       refine ap ?_ (ap ?_ (ap ?_ az)) <;>
        first | exact True.intro | exact ⟨n1, hk⟩
      exact Ft (Zr (Fp 6 (.intss []) (Rv hcx (congrArg AV.tup (q0c (congrArg AV.intss (show [] = (Cn.q0e C L B g next).1 from (by first | (rw [hr]; done) | (rw [hr, Cn.q9g hk]; done) | (rw [hr, Cn.q8z hk]; done) | (rw [hr, Cn.q9c hk]; done) | (rw [hr, Cn.q8h hk]; done) | (rw [hr, Cn.q9h hk]; done) | (rw [hr, Cn.q9f hk]; done)))) (q0c (congrArg AV.int (show next = (Cn.q0e C L B g next).2.1 from (by first | (rw [hr]; done) | (rw [hr, Cn.q9g hk]; done) | (rw [hr, Cn.q8z hk]; done) | (rw [hr, Cn.q9c hk]; done) | (rw [hr, Cn.q8h hk]; done) | (rw [hr, Cn.q9h hk]; done) | (rw [hr, Cn.q9f hk]; done)))) (q0c (congrArg AV.int (show 0 = (Cn.q0e C L B g next).2.2 from (by first | (rw [hr]; done) | (rw [hr, Cn.q9g hk]; done) | (rw [hr, Cn.q8z hk]; done) | (rw [hr, Cn.q9c hk]; done) | (rw [hr, Cn.q8h hk]; done) | (rw [hr, Cn.q9h hk]; done) | (rw [hr, Cn.q9f hk]; done)))) rfl)))) [] rfl)))
     ·
      refine Tcd k8t k0i hmx [0, 0, 3, 7, 0, 0, 63, 127, 127, 127, 1023, 2047, 4095] [(1006, .to 242)] [6, 7, 8] [9, 2] [609] [(True), (Cn.q2u ((q0b ⟨C, L, B⟩).C) ((q0b ⟨C, L, B⟩).B) ∧ Cn.q1q ((q0b ⟨C, L, B⟩).C) ((q0b ⟨C, L, B⟩).B) = 6), (-65537 ≤ g ∧ g ≤ 65537)] ?_ ?_
      ·
       refine ap ?_ (ap ?_ (ap ?_ az)) <;>
        first | omega | exact True.intro | exact ⟨n1, hk⟩
      exact Ft (Zr (Fn [(242, .frz)] [6, 7, 8] (Rv hcx (congrArg AV.tup (q0c (congrArg AV.intss (show (Cn.grd g [[]]) = (Cn.q0e C L B g next).1 from (by first | (rw [hr]; done) | (rw [hr, Cn.q9g hk]; done) | (rw [hr, Cn.q8z hk]; done) | (rw [hr, Cn.q9c hk]; done) | (rw [hr, Cn.q8h hk]; done) | (rw [hr, Cn.q9h hk]; done) | (rw [hr, Cn.q9f hk]; done)))) (q0c (congrArg AV.int (show next = (Cn.q0e C L B g next).2.1 from (by first | (rw [hr]; done) | (rw [hr, Cn.q9g hk]; done) | (rw [hr, Cn.q8z hk]; done) | (rw [hr, Cn.q9c hk]; done) | (rw [hr, Cn.q8h hk]; done) | (rw [hr, Cn.q9h hk]; done) | (rw [hr, Cn.q9f hk]; done)))) (q0c (congrArg AV.int (show 0 = (Cn.q0e C L B g next).2.2 from (by first | (rw [hr]; done) | (rw [hr, Cn.q9g hk]; done) | (rw [hr, Cn.q8z hk]; done) | (rw [hr, Cn.q9c hk]; done) | (rw [hr, Cn.q8h hk]; done) | (rw [hr, Cn.q9h hk]; done) | (rw [hr, Cn.q9f hk]; done)))) rfl)))) [] rfl)))
 ·
  cases hσ
def y8b : Cx := ⟨q4j, [(12, (q2g [.agg [.ld (.ints []), .ld (.ints []), .id], .id, .id] j2o))], true⟩
theorem y4n : q1g Tryz.prog y8b := q1b q1i ⟨(z0r.coe [.agg [.ld (.ints []), .ld (.ints []), .id], .id, .id] rfl), trivial⟩
def y5p : CtF
 | [.im (.ls (.lins l)), .im (.val (.int .i64 next))], [] => some (l.length ≤ 100 ∧ Fit next, .tup [.intss ((Cn.z2a l next).1), .int ((Cn.z2a l next).2.1), .int ((Cn.z2a l next).2.2)], [])
 | _, _ => none
theorem y4m : q0o Tryz.prog 23 y5p := by
 refine Sw (cx := y8b) Tryz.f23 Tryz.func23 ?_
 intro wW wO wβ G0 args os p r outs hσ hp
 have hcx := y4n
 unfold y5p at hσ
 split at hσ
 ·
  rename_i l next
  cases hσ
  refine ⟨by kernel_rfl, ?_⟩
  obtain ⟨hm1, hf⟩ := hp
  have hsb := Cn.y2e (l := l) hf
  refine Sz hcx [] [4] [] [] (Zs (Sq hcx [] [17] [] [] [((!(decide (next < 1))) = true → ((!(decide (next < 1))) = true)), ((decide (next < 1)) = false → (!(decide (next < 1))) = true)] ?_ (Zi (b := (decide (next < 1)) || (decide (next > 65537))) (fun h0 => ?_) fun h0 => ?_)))
  ·
   refine ap ?_ (ap (by exact q1v) az)
   exact id
  ·
   have hr : Cn.z2a l next = ([], 0, 1) := if_pos (Cn.k6a.1 h0)
   exact Sz hcx [] [4, 5, 6] [17, 0, 1] [] (Zr (Fr (Fp 4 (.intss []) (Rv hcx (congrArg AV.tup (q0c (congrArg AV.intss (show [] = (Cn.z2a l next).1 from (by first | (rw [hr]; done) | (rw [hr]; rfl) | (rw [Cn.z0h (by omega) hI2]; done)))) (q0c (congrArg AV.int (show 0 = (Cn.z2a l next).2.1 from (by first | (rw [hr]; done) | (rw [hr]; rfl) | (rw [Cn.z0h (by omega) hI2]; done)))) (q0c (congrArg AV.int (show 1 = (Cn.z2a l next).2.2 from (by first | (rw [hr]; done) | (rw [hr]; rfl) | (rw [Cn.z0h (by omega) hI2]; done)))) rfl)))) [] rfl))))
  ·
   have h17_ := Cn.x8g h0
   refine Zk (Ft (Zs (Sz hcx [] [18, 19, 20] [17, 0] [] (Zb (Zw 4 700 22 (.intss []) (Lp (X := Nat) (fun x0 => x0 ≤ l.length ∧ Cn.z2a l next = Cn.x0p (l.drop x0) (Cn.q2i l next x0).2 (Cn.q2i l next x0).1) (fun x0 => ([(1, .int ((Cn.q2i l next x0).2)), (4, .row 700), (18, .lins l), (19, .int (l.length : Int)), (20, .int (x0 : Int))], [(700, .row 22 (.intss ((Cn.q2i l next x0).1)))])) (fun x0 => l.length - x0) (0) ?_ (Ex 20 (congrArg AV.int (show 0 = (0 : Int) from (by first | rfl | omega | (simp; done)))) Eb) Hb fun i hI => ?_))))))
   ·
    exact ⟨Nat.zero_le _, Cn.k9d h17_⟩
   ·
    try dsimp only at hI
    obtain ⟨hk, hI2⟩ := hI
    have hsi := hsb i
    have hob := Cn.y7x (l.getD i ([], [], 0)).1 (l.getD i ([], [], 0)).2.1 (l.getD i ([], [], 0)).2.2 0 (Cn.q2i l next i).2
    refine Sz hcx [] [21] [] [] (Zs (Zj (p := ((i : Int) < (l.length : Int))) (fun h1 => ?_) fun h1 => ?_))
    ·
     refine Zk (Ft (Zs (Zb (Sq hcx [(1002, .to 608)] [8] [21] [] [((0 : Int) ≤ (i : Int) ∧ (i : Int) < (l.length : Int))] ?_ (Sq hcx [] [9, 10, 11] [8, 1] [608] [(Fit (0 : Int) ∧ Fit ((Cn.q2i l next i).2))] ?_ (Zs (Sz hcx [] [32] [] [] (Zx (a := ((Cn.q0e ((l.getD i ([], [], 0)).1) ((l.getD i ([], [], 0)).2.1) ((l.getD i ([], [], 0)).2.2) (0 : Int) ((Cn.q2i l next i).2)).2.2)) (b := 0) (fun h2 => ?_) fun h2 => ?_))))))))
     ·
      refine ap ?_ az
      omega
     ·
      refine ap ?_ az
      omega
     ·
      have hr := Cn.k3d (i := i) (by omega) hI2 h2
      exact Sz hcx [] [4, 5, 6] [32, 9, 10, 11, 18, 19, 20] [700] (Zr (Fr (Fk (Fr (Fr (Fk (Fr (Fp 4 (.intss []) (Rv hcx (congrArg AV.tup (q0c (congrArg AV.intss (show [] = (Cn.z2a l next).1 from (by first | (rw [hr]; done) | (rw [hr]; rfl) | (rw [Cn.z0h (by omega) hI2]; done)))) (q0c (congrArg AV.int (show 0 = (Cn.z2a l next).2.1 from (by first | (rw [hr]; done) | (rw [hr]; rfl) | (rw [Cn.z0h (by omega) hI2]; done)))) (q0c (congrArg AV.int (show (Cn.q0e ((l.getD i ([], [], 0)).1) ((l.getD i ([], [], 0)).2.1) ((l.getD i ([], [], 0)).2.2) (0 : Int) ((Cn.q2i l next i).2)).2.2 = (Cn.z2a l next).2.2 from (by first | (rw [hr]; done) | (rw [hr]; rfl) | (rw [Cn.z0h (by omega) hI2]; done)))) rfl)))) [] rfl)))))))))
     ·
      have h32_ : Cn.k4d l next i = 0 := by first | exact h2 | exact Decidable.not_not.1 h2
      refine Zk (Ft (Tq hcx [(1002, .to 700)] [1, 4] [32, 9, 10, 11] [700] [((((Cn.q2i l next i).1).length + ((Cn.q0e ((l.getD i ([], [], 0)).1) ((l.getD i ([], [], 0)).2.1) ((l.getD i ([], [], 0)).2.2) (0 : Int) ((Cn.q2i l next i).2)).1).length) * 24 ≤ 140737488355328)] ?_ (Fb (Ft (Tq hcx [] [20] [] [] [Fit ((i : Int) + 1)] ?_ (Lr (i + 1) ?_ ?_ (Ex 20 (congrArg AV.int (show ((i : Int) + 1) = ((i + 1) : Int) from (by first | rfl | omega | (simp; done)))) Eb) Hb))))))
      ·
       refine ap ?_ az
       omega
      ·
       refine ap ?_ az
       omega
      ·
       exact ⟨by omega, Cn.x9u (by omega) hI2 h32_⟩
      ·
       show l.length - (i + 1) < l.length - i
       omega
    ·
     exact Ze (Fe (Fe (Fs (Ft (Sz hcx [] [4, 5, 6] [21, 1, 18, 19, 20] [] (Zr (Fn [(700, .frz)] [4, 5, 6] (Rv hcx (congrArg AV.tup (q0c (congrArg AV.intss (show (Cn.q2i l next i).1 = (Cn.z2a l next).1 from (by first | (rw [hr]; done) | (rw [hr]; rfl) | (rw [Cn.z0h (by omega) hI2]; done)))) (q0c (congrArg AV.int (show (Cn.q2i l next i).2 = (Cn.z2a l next).2.1 from (by first | (rw [hr]; done) | (rw [hr]; rfl) | (rw [Cn.z0h (by omega) hI2]; done)))) (q0c (congrArg AV.int (show 0 = (Cn.z2a l next).2.2 from (by first | (rw [hr]; done) | (rw [hr]; rfl) | (rw [Cn.z0h (by omega) hI2]; done)))) rfl)))) [] rfl))))))))
 ·
  cases hσ
end Go.Proofs.YtkkapbnopmmmjaaGreatDoor.En
namespace Go.Proofs.YtkkapbnopmmmjaaGreatDoor.En
open Go Go.RowKit
def j5v : List (Nat × TD) := [(3, ⟨1, false, [.int .i64 0], [], none, 8, false, 1, 1⟩),
 (22, ⟨1, false, [.slice none 0 0], [], some 3, 24, false, 0, 3⟩),
 (24, ⟨3, true, [.slice none 0 0, .slice none 0 0, .int .i64 0], [(0, 22), (1, 22), (2, 3)], none, 56, false, 0, 5⟩),
 (26, ⟨1, false, [.int .i64 0], [], none, 8, false, 1, 1⟩),
 (30, ⟨1, false, [.slice none 0 0], [], some 22, 24, false, 0, 0⟩),
 (44, ⟨1, false, [.slice none 0 0], [], some 24, 24, false, 0, 0⟩)]
theorem q9y : q7v Tryz.prog j5v := ⟨⟨by kernel_rfl, by kernel_rfl, by kernel_rfl⟩, ⟨by kernel_rfl, by kernel_rfl, by kernel_rfl⟩, ⟨by kernel_rfl, by kernel_rfl, by kernel_rfl⟩, ⟨by kernel_rfl, by kernel_rfl, by kernel_rfl⟩, ⟨by kernel_rfl, by kernel_rfl, by kernel_rfl⟩, ⟨by kernel_rfl, by kernel_rfl, by kernel_rfl⟩, trivial⟩
def z7t : Cx := ⟨j5v, [], true⟩
theorem j0l : q1g Tryz.prog z7t := q1b q9y trivial
def z4k : CtF
 | [.im (.ls (.ints a)), .im (.ls (.ints b))], [] => some (a.length ≤ maxLen, .bool (decide (a = b)), [])
 | _, _ => none
theorem z9d : q0o Tryz.prog 47 z4k := by
 refine Sw (cx := z7t) Tryz.f47 Tryz.func47 ?_
 intro wW wO wβ G0 args os p r outs hσ hp
 have hcx := j0l
 have hmx : Tryz.prog.follows .mixedOrders = true := by kernel_rfl
 unfold z4k at hσ
 split at hσ
 ·
  rename_i a b
  cases hσ
  refine ⟨by kernel_rfl, ?_⟩
  have hm1 := hp
  unfold maxLen at hm1
  refine Sz hcx [] [] [] [] (Zs (Sz hcx [] [10] [] [] (Zi (b := (a.length : Int) != (b.length : Int)) (fun h0 => ?_) fun h0 => ?_)))
  ·
   replace h0 := bne_iff_ne.1 h0
   exact Sz hcx [] [4] [10, 0, 1] [] (Zr (Fr (Rv hcx (congrArg AV.bool (show false = decide (a = b) from (by first | exact (Cn.z0v (by omega)).symm | exact (Cn.z7d (i := i) hq).symm | exact (Cn.z0x hab (by omega) hok).symm))) [] rfl)))
  ·
   replace h0 := k0y h0
   refine Zk (Ft (Zs (Sz hcx [] [5] [10] [] (Zb (Lp (X := Nat) (fun x0 => x0 ≤ a.length ∧ ∀ j, j < x0 → a.getD j 0 = b.getD j 0) (fun x0 => ([(0, .ints a), (1, .ints b), (5, .int (x0 : Int))], [])) (fun x0 => a.length - x0) (0) ?_ (Ex 5 (congrArg AV.int (show 0 = (0 : Int) from (by first | rfl | omega | (simp; done)))) Eb) Hb fun i hI => ?_)))))
   ·
    exact ⟨Nat.zero_le _, fun j hj => by omega⟩
   ·
    try dsimp only at hI
    obtain ⟨hk, hok⟩ := hI
    have hab : a.length = b.length := by omega
    refine Zs (Sz hcx [] [14] [] [] (Zj (p := ((i : Int) < (a.length : Int))) (fun h1 => ?_) fun h1 => ?_))
    ·
     refine Zk (Ft (Zs (Zb (Sd hcx hmx [0, 0, 3, 7, 0, 0, 48, 112, 255] [] [25] [14] [] [((0 : Int) ≤ (i : Int) ∧ (i : Int) < (a.length : Int)), ((0 : Int) ≤ (i : Int) ∧ (i : Int) < (b.length : Int))] ?_ (Zi (b := (a.getD i 0) != (b.getD i 0)) (fun h2 => ?_) fun h2 => ?_)))))
     ·
      refine ap ?_ (ap ?_ az) <;>
       omega
     ·
      replace h2 := bne_iff_ne.1 h2
      have hq := h2
      exact Sz hcx [] [4] [25, 0, 1, 5] [] (Zr (Fk (Fr (Fr (Fk (Fr (Rv hcx (congrArg AV.bool (show false = decide (a = b) from (by first | exact (Cn.z0v (by omega)).symm | exact (Cn.z7d (i := i) hq).symm | exact (Cn.z0x hab (by omega) hok).symm))) [] rfl)))))))
     ·
      replace h2 := k0y h2
      have hq : a.getD i 0 = b.getD i 0 := by have := h2; omega
      refine Zk (Fb (Ft (Tq hcx [] [5] [25] [] [Fit ((i : Int) + 1)] ?_ (Lr (i + 1) ?_ ?_ (Ex 5 (congrArg AV.int (show ((i : Int) + 1) = ((i + 1) : Int) from (by first | rfl | omega | (simp; done)))) Eb) Hb))))
      ·
       refine ap ?_ az
       omega
      ·
       exact ⟨by omega, fun j hj => by rcases (by omega : j < i ∨ j = i) with h | rfl; exact hok j h; exact hq⟩
      ·
       show a.length - (i + 1) < a.length - i
       omega
    ·
     exact Ze (Fe (Fe (Fs (Ft (Sz hcx [] [4] [14, 0, 1, 5] [] (Zr (Rv hcx (congrArg AV.bool (show true = decide (a = b) from (by first | exact (Cn.z0v (by omega)).symm | exact (Cn.z7d (i := i) hq).symm | exact (Cn.z0x hab (by omega) hok).symm))) [] rfl)))))))
 ·
  cases hσ
def z0a : Cx := ⟨j5v, [(47, (q2g [.ld (.ints []), .ld (.ints [])] z4k))], true⟩
theorem z2g : q1g Tryz.prog z0a := q1b q9y ⟨(z9d.coe [.ld (.ints []), .ld (.ints [])] rfl), trivial⟩
def q4p : CtF
 | [.im (.ls (.intss a)), .im (.ls (.intss b))], [] => some (a.length ≤ maxLen ∧ ∀ x ∈ a, x.length ≤ maxLen, .bool (decide (a = b)), [])
 | _, _ => none
theorem q6c : q0o Tryz.prog 14 q4p := by
 refine Sw (cx := z0a) Tryz.f14 Tryz.func14 ?_
 intro wW wO wβ G0 args os p r outs hσ hp
 have hcx := z2g
 have hmx : Tryz.prog.follows .mixedOrders = true := by kernel_rfl
 unfold q4p at hσ
 split at hσ
 ·
  rename_i a b
  cases hσ
  refine ⟨by kernel_rfl, ?_⟩
  obtain ⟨hm1, hm2⟩ := hp
  have hm3 := hm1
  unfold maxLen at hm3
  have hb := fun i (h : i < a.length) => hm2 _ (Cn.q0u (d := ([] : List Int)) (k := i) h)
  refine Sz hcx [] [] [] [] (Zs (Sz hcx [] [10] [] [] (Zi (b := (a.length : Int) != (b.length : Int)) (fun h0 => ?_) fun h0 => ?_)))
  ·
   replace h0 := bne_iff_ne.1 h0
   exact Sz hcx [] [4] [10, 0, 1] [] (Zr (Fr (Rv hcx (congrArg AV.bool (show false = decide (a = b) from (by first | exact (Cn.z0v (by omega)).symm | exact (Cn.z7d (i := i) hq).symm | exact (Cn.z0x hab (by omega) hok).symm))) [] rfl)))
  ·
   replace h0 := k0y h0
   refine Zk (Ft (Zs (Sz hcx [] [5] [10] [] (Zb (Lp (X := Nat) (fun x0 => x0 ≤ a.length ∧ ∀ j, j < x0 → a.getD j [] = b.getD j []) (fun x0 => ([(0, .intss a), (1, .intss b), (5, .int (x0 : Int))], [])) (fun x0 => a.length - x0) (0) ?_ (Ex 5 (congrArg AV.int (show 0 = (0 : Int) from (by first | rfl | omega | (simp; done)))) Eb) Hb fun i hI => ?_)))))
   ·
    exact ⟨Nat.zero_le _, fun j hj => by omega⟩
   ·
    try dsimp only at hI
    obtain ⟨hk, hok⟩ := hI
    have hab : a.length = b.length := by omega
    have hbi := hb i
    refine Zs (Sz hcx [] [14] [] [] (Zj (p := ((i : Int) < (a.length : Int))) (fun h1 => ?_) fun h1 => ?_))
    ·
     refine Zk (Ft (Zs (Zb (Sd hcx hmx [0, 0, 3, 7, 0, 0, 48, 112, 255, 511] [] [26] [14] [] [((0 : Int) ≤ (i : Int) ∧ (i : Int) < (a.length : Int)), ((0 : Int) ≤ (i : Int) ∧ (i : Int) < (b.length : Int)), ((a.getD i []).length ≤ maxLen)] ?_ (Zi (b := !(decide ((a.getD i []) = (b.getD i [])))) (fun h2 => ?_) fun h2 => ?_)))))
     ·
      refine ap ?_ (ap ?_ (ap ?_ az)) <;>
       omega
     ·
      have hq := Cn.dcT h2
      exact Sz hcx [] [4] [26, 0, 1, 5] [] (Zr (Fk (Fr (Fr (Fk (Fr (Rv hcx (congrArg AV.bool (show false = decide (a = b) from (by first | exact (Cn.z0v (by omega)).symm | exact (Cn.z7d (i := i) hq).symm | exact (Cn.z0x hab (by omega) hok).symm))) [] rfl)))))))
     ·
      have hq := Cn.dcF h2
      refine Zk (Fb (Ft (Tq hcx [] [5] [26] [] [Fit ((i : Int) + 1)] ?_ (Lr (i + 1) ?_ ?_ (Ex 5 (congrArg AV.int (show ((i : Int) + 1) = ((i + 1) : Int) from (by first | rfl | omega | (simp; done)))) Eb) Hb))))
      ·
       refine ap ?_ az
       omega
      ·
       exact ⟨by omega, fun j hj => by rcases (by omega : j < i ∨ j = i) with h | rfl; exact hok j h; exact hq⟩
      ·
       show a.length - (i + 1) < a.length - i
       omega
    ·
     exact Ze (Fe (Fe (Fs (Ft (Sz hcx [] [4] [14, 0, 1, 5] [] (Zr (Rv hcx (congrArg AV.bool (show true = decide (a = b) from (by first | exact (Cn.z0v (by omega)).symm | exact (Cn.z7d (i := i) hq).symm | exact (Cn.z0x hab (by omega) hok).symm))) [] rfl)))))))
 ·
  cases hσ
def x0d : Cx := ⟨j5v, [], true⟩
theorem y4a : q1g Tryz.prog x0d := q1b q9y trivial
def y6d : CtF
 | [.im (.ls (.ints l)), .im (.val (.int .i64 n))], [] => some (l.length ≤ maxLen, .bool (l.contains n), [])
 | _, _ => none
theorem y2z : q0o Tryz.prog 32 y6d := by
 refine Sw (cx := x0d) Tryz.f32 Tryz.func32 ?_
 intro wW wO wβ G0 args os p r outs hσ hp
 have hcx := y4a
 unfold y6d at hσ
 split at hσ
 ·
  rename_i l n
  cases hσ
  refine ⟨by kernel_rfl, ?_⟩
  have hm1 := hp
  unfold maxLen at hm1
  refine Sz hcx [] [] [] [] (Zs (Sz hcx [] [5] [] [] (Zb (Lp (X := Nat) (fun x0 => x0 ≤ l.length ∧ ∀ j, j < x0 → l.getD j 0 ≠ n) (fun x0 => ([(0, .ints l), (1, .int n), (5, .int (x0 : Int))], [])) (fun x0 => l.length - x0) (0) ?_ (Ex 5 (congrArg AV.int (show 0 = (0 : Int) from (by first | rfl | omega | (simp; done)))) Eb) Hb fun i hI => ?_))))
  ·
   exact ⟨Nat.zero_le _, fun j hj => by omega⟩
  ·
   try dsimp only at hI
   obtain ⟨hk, hok⟩ := hI
   refine Zs (Sz hcx [] [9] [] [] (Zj (p := ((i : Int) < (l.length : Int))) (fun h0 => ?_) fun h0 => ?_))
   ·
    refine Zk (Ft (Zs (Zb (Sq hcx [] [17] [9] [] [((0 : Int) ≤ (i : Int) ∧ (i : Int) < (l.length : Int))] ?_ (Zi (b := (l.getD i 0) == n) (fun h1 => ?_) fun h1 => ?_)))))
    ·
     refine ap ?_ az
     omega
    ·
     replace h1 := eq_of_beq h1
     have hq := h1
     exact Sz hcx [] [4] [17, 0, 1, 5] [] (Zr (Fk (Fr (Fr (Fk (Fr (Rv hcx (congrArg AV.bool (show true = (l.contains n) from (by first | exact (Cn.j6s (i := i) (by omega) hq).symm | exact (Cn.y7o (by omega) hok).symm))) [] rfl)))))))
    ·
     replace h1 := neB h1
     have hq := h1
     refine Zk (Fb (Ft (Tq hcx [] [5] [17] [] [Fit ((i : Int) + 1)] ?_ (Lr (i + 1) ?_ ?_ (Ex 5 (congrArg AV.int (show ((i : Int) + 1) = ((i + 1) : Int) from (by first | rfl | omega | (simp; done)))) Eb) Hb))))
     ·
      refine ap ?_ az
      omega
     ·
      exact ⟨by omega, fun j hj => by rcases (by omega : j < i ∨ j = i) with h | rfl; exact hok j h; exact hq⟩
     ·
      show l.length - (i + 1) < l.length - i
      omega
   ·
    exact Ze (Fe (Fe (Fs (Ft (Sz hcx [] [4] [9, 0, 1, 5] [] (Zr (Rv hcx (congrArg AV.bool (show false = (l.contains n) from (by first | exact (Cn.j6s (i := i) (by omega) hq).symm | exact (Cn.y7o (by omega) hok).symm))) [] rfl)))))))
 ·
  cases hσ
attribute [local irreducible] Cn.z3p Cn.q0e Cn.z2a
abbrev x5f : Bool := ((((Cn.z3p [1, 1] [1, 2] (1 : Int)).1) == 1) && (((Cn.z3p [1, 1] [1, 2] (1 : Int)).2) == 0))
abbrev x6p : Bool := (x5f && (((Cn.z3p [1, 1] [1, 2] (2 : Int)).1) == 2))
abbrev x4y : Bool := (x6p && (((Cn.z3p [1, 1] [1, 2] (2 : Int)).2) == 0))
abbrev x6d : Bool := (x4y && (((Cn.z3p [2, 3, 4] [1, 2, 3] (5 : Int)).1) == 4))
abbrev k1d : Bool := (x6d && (((Cn.z3p [2, 3, 4] [1, 2, 3] (5 : Int)).2) == 0))
abbrev y3g : Bool := (k1d && ((((((((((Cn.q0e [1, 1] [1, 2] (1 : Int) (9 : Int) (10 : Int)).1).length : Int) == 1) && (((((Cn.q0e [1, 1] [1, 2] (1 : Int) (9 : Int) (10 : Int)).1).getD 0 []).length : Int) == 3)) && ((((Cn.q0e [1, 1] [1, 2] (1 : Int) (9 : Int) (10 : Int)).1).getD 0 []).contains (-9))) && ((((Cn.q0e [1, 1] [1, 2] (1 : Int) (9 : Int) (10 : Int)).1).getD 0 []).contains (1 : Int))) && ((((Cn.q0e [1, 1] [1, 2] (1 : Int) (9 : Int) (10 : Int)).1).getD 0 []).contains (2 : Int))) && (((Cn.q0e [1, 1] [1, 2] (1 : Int) (9 : Int) (10 : Int)).2.1) == 10)) && (((Cn.q0e [1, 1] [1, 2] (1 : Int) (9 : Int) (10 : Int)).2.2) == 0)))
abbrev x6h : Bool := (y3g && (decide (((Cn.q0e ([] : List (Int)) ([] : List (Int)) (1 : Int) (-4) (10 : Int)).1) = [[4]])))
abbrev x6o : Bool := (x6h && (((Cn.q0e ([] : List (Int)) ([] : List (Int)) (1 : Int) (-4) (10 : Int)).2.2) == 0))
abbrev x0q : Bool := (x6o && (((Cn.q0e [1, 1] [1, 2] (1 : Int) (10 : Int) (10 : Int)).2.2) == 140))
abbrev j6c : Bool := (x0q && ((((Cn.z2a [([], [], 0), ([1, 1], [1, 2], 1)] (3 : Int)).1).length : Int) == 1))
def j2k : Cx := ⟨j5v, [(10, (q2g [.agg [.ld (.ints []), .ld (.ints []), .id]] y5c)), (12, (q2g [.agg [.ld (.ints []), .ld (.ints []), .id], .id, .id] j2o)), (23, (q2g [.ld (.lins []), .id] y5p)), (14, (q2g [.ld (.intss []), .ld (.intss [])] q4p)), (32, (q2g [.ld (.ints []), .id] y6d))], true⟩
theorem j2i : q1g Tryz.prog j2k := q1b q9y ⟨(y3w.coe [.agg [.ld (.ints []), .ld (.ints []), .id]] rfl), (z0r.coe [.agg [.ld (.ints []), .ld (.ints []), .id], .id, .id] rfl), (y4m.coe [.ld (.lins []), .id] rfl), (q6c.coe [.ld (.intss []), .ld (.intss [])] rfl), (y2z.coe [.ld (.ints []), .id] rfl), trivial⟩
def z9x : CtF
 | [], [] => some (True, .bool true, [])
 | _, _ => none
theorem j5z : q0o Tryz.prog 9 z9x := by
 refine Sw (cx := j2k) Tryz.f9 Tryz.func9 ?_
 intro wW wO wβ G0 args os p r outs hσ hp
 have hcx := j2i
 unfold z9x at hσ
 split at hσ
 ·
  cases hσ
  refine ⟨by kernel_rfl, ?_⟩
  have h1 := Cn.k2r
  have h2 := Cn.k3n
  have h3 := Cn.k2m
  have h4 := Cn.k3l
  have h5 := Cn.k1z
  have h6 := Cn.k2y
  have h7 := Cn.k5d
  refine Sz hcx [] [] [] [] (Sz hcx [(1003, .to 601)] [1] [] [] (Sz hcx [(1003, .to 602)] [2] [] [] (Sz hcx [(1003, .to 603)] [3] [] [] (Sq hcx [] [4, 5] [] [] [(True)] ?_ (Sq hcx [] [6, 7] [2] [602] [(True)] ?_ (Sq hcx [] [8, 9] [3] [603] [(True)] ?_ (Sq hcx [] [10, 11, 12] [] [] [(Fit (9 : Int) ∧ Fit (10 : Int))] ?_ (Sq hcx [] [13, 15] [] [] [(Fit (-4) ∧ Fit (10 : Int))] ?_ (Sq hcx [] [18] [] [] [(Fit (10 : Int) ∧ Fit (10 : Int))] ?_ (Sq hcx [] [19, 21] [1] [601] [([([], [], 0), ([1, 1], [1, 2], 1)].length ≤ 100 ∧ Fit (3 : Int))] ?_ (Sq hcx [] [22] [10, 11, 12] [] [(((((Cn.q0e [1, 1] [1, 2] (1 : Int) (9 : Int) (10 : Int)).1).length : Int) == 1) = true → (((((Cn.q0e [1, 1] [1, 2] (1 : Int) (9 : Int) (10 : Int)).1).length : Int) == 1) = true)), (((((Cn.q0e [1, 1] [1, 2] (1 : Int) (9 : Int) (10 : Int)).1).length : Int) == 1) = true → ((0 : Int) ≤ 0 ∧ 0 < (((Cn.q0e [1, 1] [1, 2] (1 : Int) (9 : Int) (10 : Int)).1).length : Int))), (((((Cn.q0e [1, 1] [1, 2] (1 : Int) (9 : Int) (10 : Int)).1).length : Int) == 1) = true → (((((Cn.q0e [1, 1] [1, 2] (1 : Int) (9 : Int) (10 : Int)).1).length : Int) == 1) = true)), (((((Cn.q0e [1, 1] [1, 2] (1 : Int) (9 : Int) (10 : Int)).1).length : Int) == 1) = true → (((((Cn.q0e [1, 1] [1, 2] (1 : Int) (9 : Int) (10 : Int)).1).length : Int) == 1) = true)), (((((Cn.q0e [1, 1] [1, 2] (1 : Int) (9 : Int) (10 : Int)).1).length : Int) == 1) = true → (((((Cn.q0e [1, 1] [1, 2] (1 : Int) (9 : Int) (10 : Int)).1).length : Int) == 1) = true)), (((((Cn.q0e [1, 1] [1, 2] (1 : Int) (9 : Int) (10 : Int)).1).length : Int) == 1) = true → ((((Cn.q0e [1, 1] [1, 2] (1 : Int) (9 : Int) (10 : Int)).1).length : Int) == 1) = true), ((((((Cn.q0e [1, 1] [1, 2] (1 : Int) (9 : Int) (10 : Int)).1).length : Int) == 1) && (((((Cn.q0e [1, 1] [1, 2] (1 : Int) (9 : Int) (10 : Int)).1).getD 0 []).length : Int) == 3)) = true → ((((((Cn.q0e [1, 1] [1, 2] (1 : Int) (9 : Int) (10 : Int)).1).length : Int) == 1) && (((((Cn.q0e [1, 1] [1, 2] (1 : Int) (9 : Int) (10 : Int)).1).getD 0 []).length : Int) == 3)) = true)), ((((((Cn.q0e [1, 1] [1, 2] (1 : Int) (9 : Int) (10 : Int)).1).length : Int) == 1) && (((((Cn.q0e [1, 1] [1, 2] (1 : Int) (9 : Int) (10 : Int)).1).getD 0 []).length : Int) == 3)) = true → ((0 : Int) ≤ 0 ∧ 0 < (((Cn.q0e [1, 1] [1, 2] (1 : Int) (9 : Int) (10 : Int)).1).length : Int))), ((((((Cn.q0e [1, 1] [1, 2] (1 : Int) (9 : Int) (10 : Int)).1).length : Int) == 1) && (((((Cn.q0e [1, 1] [1, 2] (1 : Int) (9 : Int) (10 : Int)).1).getD 0 []).length : Int) == 3)) = true → ((((((Cn.q0e [1, 1] [1, 2] (1 : Int) (9 : Int) (10 : Int)).1).length : Int) == 1) && (((((Cn.q0e [1, 1] [1, 2] (1 : Int) (9 : Int) (10 : Int)).1).getD 0 []).length : Int) == 3)) = true)), ((((((Cn.q0e [1, 1] [1, 2] (1 : Int) (9 : Int) (10 : Int)).1).length : Int) == 1) && (((((Cn.q0e [1, 1] [1, 2] (1 : Int) (9 : Int) (10 : Int)).1).getD 0 []).length : Int) == 3)) = true → ((((((Cn.q0e [1, 1] [1, 2] (1 : Int) (9 : Int) (10 : Int)).1).length : Int) == 1) && (((((Cn.q0e [1, 1] [1, 2] (1 : Int) (9 : Int) (10 : Int)).1).getD 0 []).length : Int) == 3)) = true)), ((((((Cn.q0e [1, 1] [1, 2] (1 : Int) (9 : Int) (10 : Int)).1).length : Int) == 1) && (((((Cn.q0e [1, 1] [1, 2] (1 : Int) (9 : Int) (10 : Int)).1).getD 0 []).length : Int) == 3)) = true → ((((Cn.q0e [1, 1] [1, 2] (1 : Int) (9 : Int) (10 : Int)).1).getD 0 []).length ≤ maxLen)), ((((((Cn.q0e [1, 1] [1, 2] (1 : Int) (9 : Int) (10 : Int)).1).length : Int) == 1) && (((((Cn.q0e [1, 1] [1, 2] (1 : Int) (9 : Int) (10 : Int)).1).getD 0 []).length : Int) == 3)) = true → (((((Cn.q0e [1, 1] [1, 2] (1 : Int) (9 : Int) (10 : Int)).1).length : Int) == 1) && (((((Cn.q0e [1, 1] [1, 2] (1 : Int) (9 : Int) (10 : Int)).1).getD 0 []).length : Int) == 3)) = true), (((((((Cn.q0e [1, 1] [1, 2] (1 : Int) (9 : Int) (10 : Int)).1).length : Int) == 1) && (((((Cn.q0e [1, 1] [1, 2] (1 : Int) (9 : Int) (10 : Int)).1).getD 0 []).length : Int) == 3)) && ((((Cn.q0e [1, 1] [1, 2] (1 : Int) (9 : Int) (10 : Int)).1).getD 0 []).contains (-9))) = true → (((((((Cn.q0e [1, 1] [1, 2] (1 : Int) (9 : Int) (10 : Int)).1).length : Int) == 1) && (((((Cn.q0e [1, 1] [1, 2] (1 : Int) (9 : Int) (10 : Int)).1).getD 0 []).length : Int) == 3)) && ((((Cn.q0e [1, 1] [1, 2] (1 : Int) (9 : Int) (10 : Int)).1).getD 0 []).contains (-9))) = true)), (((((((Cn.q0e [1, 1] [1, 2] (1 : Int) (9 : Int) (10 : Int)).1).length : Int) == 1) && (((((Cn.q0e [1, 1] [1, 2] (1 : Int) (9 : Int) (10 : Int)).1).getD 0 []).length : Int) == 3)) && ((((Cn.q0e [1, 1] [1, 2] (1 : Int) (9 : Int) (10 : Int)).1).getD 0 []).contains (-9))) = true → ((0 : Int) ≤ 0 ∧ 0 < (((Cn.q0e [1, 1] [1, 2] (1 : Int) (9 : Int) (10 : Int)).1).length : Int))), (((((((Cn.q0e [1, 1] [1, 2] (1 : Int) (9 : Int) (10 : Int)).1).length : Int) == 1) && (((((Cn.q0e [1, 1] [1, 2] (1 : Int) (9 : Int) (10 : Int)).1).getD 0 []).length : Int) == 3)) && ((((Cn.q0e [1, 1] [1, 2] (1 : Int) (9 : Int) (10 : Int)).1).getD 0 []).contains (-9))) = true → (((((((Cn.q0e [1, 1] [1, 2] (1 : Int) (9 : Int) (10 : Int)).1).length : Int) == 1) && (((((Cn.q0e [1, 1] [1, 2] (1 : Int) (9 : Int) (10 : Int)).1).getD 0 []).length : Int) == 3)) && ((((Cn.q0e [1, 1] [1, 2] (1 : Int) (9 : Int) (10 : Int)).1).getD 0 []).contains (-9))) = true)), (((((((Cn.q0e [1, 1] [1, 2] (1 : Int) (9 : Int) (10 : Int)).1).length : Int) == 1) && (((((Cn.q0e [1, 1] [1, 2] (1 : Int) (9 : Int) (10 : Int)).1).getD 0 []).length : Int) == 3)) && ((((Cn.q0e [1, 1] [1, 2] (1 : Int) (9 : Int) (10 : Int)).1).getD 0 []).contains (-9))) = true → (((((((Cn.q0e [1, 1] [1, 2] (1 : Int) (9 : Int) (10 : Int)).1).length : Int) == 1) && (((((Cn.q0e [1, 1] [1, 2] (1 : Int) (9 : Int) (10 : Int)).1).getD 0 []).length : Int) == 3)) && ((((Cn.q0e [1, 1] [1, 2] (1 : Int) (9 : Int) (10 : Int)).1).getD 0 []).contains (-9))) = true)), (((((((Cn.q0e [1, 1] [1, 2] (1 : Int) (9 : Int) (10 : Int)).1).length : Int) == 1) && (((((Cn.q0e [1, 1] [1, 2] (1 : Int) (9 : Int) (10 : Int)).1).getD 0 []).length : Int) == 3)) && ((((Cn.q0e [1, 1] [1, 2] (1 : Int) (9 : Int) (10 : Int)).1).getD 0 []).contains (-9))) = true → ((((Cn.q0e [1, 1] [1, 2] (1 : Int) (9 : Int) (10 : Int)).1).getD 0 []).length ≤ maxLen)), (((((((Cn.q0e [1, 1] [1, 2] (1 : Int) (9 : Int) (10 : Int)).1).length : Int) == 1) && (((((Cn.q0e [1, 1] [1, 2] (1 : Int) (9 : Int) (10 : Int)).1).getD 0 []).length : Int) == 3)) && ((((Cn.q0e [1, 1] [1, 2] (1 : Int) (9 : Int) (10 : Int)).1).getD 0 []).contains (-9))) = true → ((((((Cn.q0e [1, 1] [1, 2] (1 : Int) (9 : Int) (10 : Int)).1).length : Int) == 1) && (((((Cn.q0e [1, 1] [1, 2] (1 : Int) (9 : Int) (10 : Int)).1).getD 0 []).length : Int) == 3)) && ((((Cn.q0e [1, 1] [1, 2] (1 : Int) (9 : Int) (10 : Int)).1).getD 0 []).contains (-9))) = true), ((((((((Cn.q0e [1, 1] [1, 2] (1 : Int) (9 : Int) (10 : Int)).1).length : Int) == 1) && (((((Cn.q0e [1, 1] [1, 2] (1 : Int) (9 : Int) (10 : Int)).1).getD 0 []).length : Int) == 3)) && ((((Cn.q0e [1, 1] [1, 2] (1 : Int) (9 : Int) (10 : Int)).1).getD 0 []).contains (-9))) && ((((Cn.q0e [1, 1] [1, 2] (1 : Int) (9 : Int) (10 : Int)).1).getD 0 []).contains (1 : Int))) = true → ((((((((Cn.q0e [1, 1] [1, 2] (1 : Int) (9 : Int) (10 : Int)).1).length : Int) == 1) && (((((Cn.q0e [1, 1] [1, 2] (1 : Int) (9 : Int) (10 : Int)).1).getD 0 []).length : Int) == 3)) && ((((Cn.q0e [1, 1] [1, 2] (1 : Int) (9 : Int) (10 : Int)).1).getD 0 []).contains (-9))) && ((((Cn.q0e [1, 1] [1, 2] (1 : Int) (9 : Int) (10 : Int)).1).getD 0 []).contains (1 : Int))) = true)), ((((((((Cn.q0e [1, 1] [1, 2] (1 : Int) (9 : Int) (10 : Int)).1).length : Int) == 1) && (((((Cn.q0e [1, 1] [1, 2] (1 : Int) (9 : Int) (10 : Int)).1).getD 0 []).length : Int) == 3)) && ((((Cn.q0e [1, 1] [1, 2] (1 : Int) (9 : Int) (10 : Int)).1).getD 0 []).contains (-9))) && ((((Cn.q0e [1, 1] [1, 2] (1 : Int) (9 : Int) (10 : Int)).1).getD 0 []).contains (1 : Int))) = true → ((0 : Int) ≤ 0 ∧ 0 < (((Cn.q0e [1, 1] [1, 2] (1 : Int) (9 : Int) (10 : Int)).1).length : Int))), ((((((((Cn.q0e [1, 1] [1, 2] (1 : Int) (9 : Int) (10 : Int)).1).length : Int) == 1) && (((((Cn.q0e [1, 1] [1, 2] (1 : Int) (9 : Int) (10 : Int)).1).getD 0 []).length : Int) == 3)) && ((((Cn.q0e [1, 1] [1, 2] (1 : Int) (9 : Int) (10 : Int)).1).getD 0 []).contains (-9))) && ((((Cn.q0e [1, 1] [1, 2] (1 : Int) (9 : Int) (10 : Int)).1).getD 0 []).contains (1 : Int))) = true → ((((((((Cn.q0e [1, 1] [1, 2] (1 : Int) (9 : Int) (10 : Int)).1).length : Int) == 1) && (((((Cn.q0e [1, 1] [1, 2] (1 : Int) (9 : Int) (10 : Int)).1).getD 0 []).length : Int) == 3)) && ((((Cn.q0e [1, 1] [1, 2] (1 : Int) (9 : Int) (10 : Int)).1).getD 0 []).contains (-9))) && ((((Cn.q0e [1, 1] [1, 2] (1 : Int) (9 : Int) (10 : Int)).1).getD 0 []).contains (1 : Int))) = true)), ((((((((Cn.q0e [1, 1] [1, 2] (1 : Int) (9 : Int) (10 : Int)).1).length : Int) == 1) && (((((Cn.q0e [1, 1] [1, 2] (1 : Int) (9 : Int) (10 : Int)).1).getD 0 []).length : Int) == 3)) && ((((Cn.q0e [1, 1] [1, 2] (1 : Int) (9 : Int) (10 : Int)).1).getD 0 []).contains (-9))) && ((((Cn.q0e [1, 1] [1, 2] (1 : Int) (9 : Int) (10 : Int)).1).getD 0 []).contains (1 : Int))) = true → ((((((((Cn.q0e [1, 1] [1, 2] (1 : Int) (9 : Int) (10 : Int)).1).length : Int) == 1) && (((((Cn.q0e [1, 1] [1, 2] (1 : Int) (9 : Int) (10 : Int)).1).getD 0 []).length : Int) == 3)) && ((((Cn.q0e [1, 1] [1, 2] (1 : Int) (9 : Int) (10 : Int)).1).getD 0 []).contains (-9))) && ((((Cn.q0e [1, 1] [1, 2] (1 : Int) (9 : Int) (10 : Int)).1).getD 0 []).contains (1 : Int))) = true)), ((((((((Cn.q0e [1, 1] [1, 2] (1 : Int) (9 : Int) (10 : Int)).1).length : Int) == 1) && (((((Cn.q0e [1, 1] [1, 2] (1 : Int) (9 : Int) (10 : Int)).1).getD 0 []).length : Int) == 3)) && ((((Cn.q0e [1, 1] [1, 2] (1 : Int) (9 : Int) (10 : Int)).1).getD 0 []).contains (-9))) && ((((Cn.q0e [1, 1] [1, 2] (1 : Int) (9 : Int) (10 : Int)).1).getD 0 []).contains (1 : Int))) = true → ((((Cn.q0e [1, 1] [1, 2] (1 : Int) (9 : Int) (10 : Int)).1).getD 0 []).length ≤ maxLen)), ((((((((Cn.q0e [1, 1] [1, 2] (1 : Int) (9 : Int) (10 : Int)).1).length : Int) == 1) && (((((Cn.q0e [1, 1] [1, 2] (1 : Int) (9 : Int) (10 : Int)).1).getD 0 []).length : Int) == 3)) && ((((Cn.q0e [1, 1] [1, 2] (1 : Int) (9 : Int) (10 : Int)).1).getD 0 []).contains (-9))) && ((((Cn.q0e [1, 1] [1, 2] (1 : Int) (9 : Int) (10 : Int)).1).getD 0 []).contains (1 : Int))) = true → (((((((Cn.q0e [1, 1] [1, 2] (1 : Int) (9 : Int) (10 : Int)).1).length : Int) == 1) && (((((Cn.q0e [1, 1] [1, 2] (1 : Int) (9 : Int) (10 : Int)).1).getD 0 []).length : Int) == 3)) && ((((Cn.q0e [1, 1] [1, 2] (1 : Int) (9 : Int) (10 : Int)).1).getD 0 []).contains (-9))) && ((((Cn.q0e [1, 1] [1, 2] (1 : Int) (9 : Int) (10 : Int)).1).getD 0 []).contains (1 : Int))) = true), (((((((((Cn.q0e [1, 1] [1, 2] (1 : Int) (9 : Int) (10 : Int)).1).length : Int) == 1) && (((((Cn.q0e [1, 1] [1, 2] (1 : Int) (9 : Int) (10 : Int)).1).getD 0 []).length : Int) == 3)) && ((((Cn.q0e [1, 1] [1, 2] (1 : Int) (9 : Int) (10 : Int)).1).getD 0 []).contains (-9))) && ((((Cn.q0e [1, 1] [1, 2] (1 : Int) (9 : Int) (10 : Int)).1).getD 0 []).contains (1 : Int))) && ((((Cn.q0e [1, 1] [1, 2] (1 : Int) (9 : Int) (10 : Int)).1).getD 0 []).contains (2 : Int))) = true → (((((((((Cn.q0e [1, 1] [1, 2] (1 : Int) (9 : Int) (10 : Int)).1).length : Int) == 1) && (((((Cn.q0e [1, 1] [1, 2] (1 : Int) (9 : Int) (10 : Int)).1).getD 0 []).length : Int) == 3)) && ((((Cn.q0e [1, 1] [1, 2] (1 : Int) (9 : Int) (10 : Int)).1).getD 0 []).contains (-9))) && ((((Cn.q0e [1, 1] [1, 2] (1 : Int) (9 : Int) (10 : Int)).1).getD 0 []).contains (1 : Int))) && ((((Cn.q0e [1, 1] [1, 2] (1 : Int) (9 : Int) (10 : Int)).1).getD 0 []).contains (2 : Int))) = true)), (((((((((Cn.q0e [1, 1] [1, 2] (1 : Int) (9 : Int) (10 : Int)).1).length : Int) == 1) && (((((Cn.q0e [1, 1] [1, 2] (1 : Int) (9 : Int) (10 : Int)).1).getD 0 []).length : Int) == 3)) && ((((Cn.q0e [1, 1] [1, 2] (1 : Int) (9 : Int) (10 : Int)).1).getD 0 []).contains (-9))) && ((((Cn.q0e [1, 1] [1, 2] (1 : Int) (9 : Int) (10 : Int)).1).getD 0 []).contains (1 : Int))) && ((((Cn.q0e [1, 1] [1, 2] (1 : Int) (9 : Int) (10 : Int)).1).getD 0 []).contains (2 : Int))) = true → ((((((((Cn.q0e [1, 1] [1, 2] (1 : Int) (9 : Int) (10 : Int)).1).length : Int) == 1) && (((((Cn.q0e [1, 1] [1, 2] (1 : Int) (9 : Int) (10 : Int)).1).getD 0 []).length : Int) == 3)) && ((((Cn.q0e [1, 1] [1, 2] (1 : Int) (9 : Int) (10 : Int)).1).getD 0 []).contains (-9))) && ((((Cn.q0e [1, 1] [1, 2] (1 : Int) (9 : Int) (10 : Int)).1).getD 0 []).contains (1 : Int))) && ((((Cn.q0e [1, 1] [1, 2] (1 : Int) (9 : Int) (10 : Int)).1).getD 0 []).contains (2 : Int))) = true), ((((((((((Cn.q0e [1, 1] [1, 2] (1 : Int) (9 : Int) (10 : Int)).1).length : Int) == 1) && (((((Cn.q0e [1, 1] [1, 2] (1 : Int) (9 : Int) (10 : Int)).1).getD 0 []).length : Int) == 3)) && ((((Cn.q0e [1, 1] [1, 2] (1 : Int) (9 : Int) (10 : Int)).1).getD 0 []).contains (-9))) && ((((Cn.q0e [1, 1] [1, 2] (1 : Int) (9 : Int) (10 : Int)).1).getD 0 []).contains (1 : Int))) && ((((Cn.q0e [1, 1] [1, 2] (1 : Int) (9 : Int) (10 : Int)).1).getD 0 []).contains (2 : Int))) && (((Cn.q0e [1, 1] [1, 2] (1 : Int) (9 : Int) (10 : Int)).2.1) == 10)) = true → ((((((((((Cn.q0e [1, 1] [1, 2] (1 : Int) (9 : Int) (10 : Int)).1).length : Int) == 1) && (((((Cn.q0e [1, 1] [1, 2] (1 : Int) (9 : Int) (10 : Int)).1).getD 0 []).length : Int) == 3)) && ((((Cn.q0e [1, 1] [1, 2] (1 : Int) (9 : Int) (10 : Int)).1).getD 0 []).contains (-9))) && ((((Cn.q0e [1, 1] [1, 2] (1 : Int) (9 : Int) (10 : Int)).1).getD 0 []).contains (1 : Int))) && ((((Cn.q0e [1, 1] [1, 2] (1 : Int) (9 : Int) (10 : Int)).1).getD 0 []).contains (2 : Int))) && (((Cn.q0e [1, 1] [1, 2] (1 : Int) (9 : Int) (10 : Int)).2.1) == 10)) = true)), ((((((((((Cn.q0e [1, 1] [1, 2] (1 : Int) (9 : Int) (10 : Int)).1).length : Int) == 1) && (((((Cn.q0e [1, 1] [1, 2] (1 : Int) (9 : Int) (10 : Int)).1).getD 0 []).length : Int) == 3)) && ((((Cn.q0e [1, 1] [1, 2] (1 : Int) (9 : Int) (10 : Int)).1).getD 0 []).contains (-9))) && ((((Cn.q0e [1, 1] [1, 2] (1 : Int) (9 : Int) (10 : Int)).1).getD 0 []).contains (1 : Int))) && ((((Cn.q0e [1, 1] [1, 2] (1 : Int) (9 : Int) (10 : Int)).1).getD 0 []).contains (2 : Int))) && (((Cn.q0e [1, 1] [1, 2] (1 : Int) (9 : Int) (10 : Int)).2.1) == 10)) = true → (((((((((Cn.q0e [1, 1] [1, 2] (1 : Int) (9 : Int) (10 : Int)).1).length : Int) == 1) && (((((Cn.q0e [1, 1] [1, 2] (1 : Int) (9 : Int) (10 : Int)).1).getD 0 []).length : Int) == 3)) && ((((Cn.q0e [1, 1] [1, 2] (1 : Int) (9 : Int) (10 : Int)).1).getD 0 []).contains (-9))) && ((((Cn.q0e [1, 1] [1, 2] (1 : Int) (9 : Int) (10 : Int)).1).getD 0 []).contains (1 : Int))) && ((((Cn.q0e [1, 1] [1, 2] (1 : Int) (9 : Int) (10 : Int)).1).getD 0 []).contains (2 : Int))) && (((Cn.q0e [1, 1] [1, 2] (1 : Int) (9 : Int) (10 : Int)).2.1) == 10)) = true)] ?_ (Sq hcx [] [0] [22, 19, 21, 18, 13, 15, 8, 9, 6, 7, 4, 5] [] [((((Cn.z3p [1, 1] [1, 2] (1 : Int)).1) == 1) = true → ((((Cn.z3p [1, 1] [1, 2] (1 : Int)).1) == 1) = true)), ((((Cn.z3p [1, 1] [1, 2] (1 : Int)).1) == 1) = true → (((Cn.z3p [1, 1] [1, 2] (1 : Int)).1) == 1) = true), (x5f = true → (x5f = true)), (x5f = true → x5f = true), (x6p = true → (x6p = true)), (x6p = true → x6p = true), (x4y = true → (x4y = true)), (x4y = true → x4y = true), (x6d = true → (x6d = true)), (x6d = true → x6d = true), (k1d = true → k1d = true), (y3g = true → (y3g = true)), (y3g = true → (y3g = true)), (y3g = true → (y3g = true)), (y3g = true → (((Cn.q0e ([] : List (Int)) ([] : List (Int)) (1 : Int) (-4) (10 : Int)).1).length ≤ maxLen ∧ ∀ x ∈ ((Cn.q0e ([] : List (Int)) ([] : List (Int)) (1 : Int) (-4) (10 : Int)).1), x.length ≤ maxLen)), (y3g = true → y3g = true), (x6h = true → (x6h = true)), (x6h = true → x6h = true), (x6o = true → (x6o = true)), (x6o = true → x6o = true), (x0q = true → (x0q = true)), (x0q = true → (x0q = true)), (x0q = true → x0q = true), (j6c = true → (j6c = true)), (j6c = true → j6c = true)] ?_ (Zr (Rv hcx (congrArg AV.bool (show (j6c && (((Cn.z2a [([], [], 0), ([1, 1], [1, 2], 1)] (3 : Int)).2.2) == 0)) = true from (by (simp only [x5f, x6p, x4y, x6d, k1d, y3g, x6h, x6o, x0q, j6c, h1, h2, h3, h4, h5, h6, h7]; decide)))) [] rfl))))))))))))))
  ·
   refine ap ?_ az
   exact True.intro
  ·
   refine ap ?_ az
   exact True.intro
  ·
   refine ap ?_ az
   exact True.intro
  ·
   refine ap ?_ az
   decide
  ·
   refine ap ?_ az
   decide
  ·
   refine ap ?_ az
   decide
  ·
   refine ap ?_ az
   decide
  ·
   refine ap ?_ (ap ?_ (ap ?_ (ap ?_ (ap ?_ (ap (by exact id) (ap ?_ (ap ?_ (ap ?_ (ap ?_ (ap ?_ (ap (by exact id) (ap ?_ (ap ?_ (ap ?_ (ap ?_ (ap ?_ (ap (by exact id) (ap ?_ (ap ?_ (ap ?_ (ap ?_ (ap ?_ (ap (by exact id) (ap ?_ (ap (by exact id) (ap ?_ (ap (by exact id) az))))))))))))))))))))))))))) <;>
    first | exact (fun h => h) | (simp only [x5f, x6p, x4y, x6d, k1d, y3g, x6h, x6o, x0q, j6c, h1, h2, h3, h4, h5, h6, h7]; decide)
  ·
   refine ap ?_ (ap (by exact id) (ap ?_ (ap (by exact id) (ap ?_ (ap (by exact id) (ap ?_ (ap (by exact id) (ap ?_ (ap (by exact id) (ap (by exact id) (ap ?_ (ap ?_ (ap ?_ (ap ?_ (ap (by exact id) (ap ?_ (ap (by exact id) (ap ?_ (ap (by exact id) (ap ?_ (ap ?_ (ap (by exact id) (ap ?_ (ap (by exact id) az)))))))))))))))))))))))) <;>
    first | exact (fun h => h) | (simp only [x5f, x6p, x4y, x6d, k1d, y3g, x6h, x6o, x0q, j6c, h1, h2, h3, h4, h5, h6, h7]; decide)
 ·
  cases hσ
end Go.Proofs.YtkkapbnopmmmjaaGreatDoor.En
namespace Go.Proofs.YtkkapbnopmmmjaaGreatDoor.En
open Go Go.RowKit
def z9h : List (Nat × TD) := [(3, ⟨1, false, [.int .i64 0], [], none, 8, false, 1, 1⟩),
 (22, ⟨1, false, [.slice none 0 0], [], some 3, 24, false, 0, 3⟩),
 (24, ⟨3, true, [.slice none 0 0, .slice none 0 0, .int .i64 0], [(0, 22), (1, 22), (2, 3)], none, 56, false, 0, 5⟩),
 (26, ⟨1, false, [.int .i64 0], [], none, 8, false, 1, 1⟩)]
theorem z0s : q7v Tryz.prog z9h := ⟨⟨by kernel_rfl, by kernel_rfl, by kernel_rfl⟩, ⟨by kernel_rfl, by kernel_rfl, by kernel_rfl⟩, ⟨by kernel_rfl, by kernel_rfl, by kernel_rfl⟩, ⟨by kernel_rfl, by kernel_rfl, by kernel_rfl⟩, trivial⟩
def j4u : Cx := ⟨z9h, [], true⟩
theorem j4m : q1g Tryz.prog j4u := q1b z0s trivial
def j0i : CtF
 | [.im (.ls (.ints l)), .im (.val (.int .i64 c))], [] => some (l.length ≤ maxLen, .bool (l.all fun x => x == c), [])
 | _, _ => none
theorem j3p : q0o Tryz.prog 85 j0i := by
 refine Sw (cx := j4u) Tryz.f85 Tryz.func85 ?_
 intro wW wO wβ G0 args os p r outs hσ hp
 have hcx := j4m
 unfold j0i at hσ
 split at hσ
 ·
  rename_i l c
  cases hσ
  refine ⟨by kernel_rfl, ?_⟩
  have hm1 := hp
  unfold maxLen at hm1
  refine Sz hcx [] [] [] [] (Zs (Sz hcx [] [5] [] [] (Zb (Lp (X := Nat) (fun x0 => x0 ≤ l.length ∧ ∀ j, j < x0 → l.getD j 0 = c) (fun x0 => ([(0, .ints l), (1, .int c), (5, .int (x0 : Int))], [])) (fun x0 => l.length - x0) (0) ?_ (Ex 5 (congrArg AV.int (show 0 = (0 : Int) from (by first | rfl | omega | (simp; done)))) Eb) Hb fun i hI => ?_))))
  ·
   exact ⟨Nat.zero_le _, fun j hj => by omega⟩
  ·
   try dsimp only at hI
   obtain ⟨hk, hok⟩ := hI
   refine Zs (Sz hcx [] [9] [] [] (Zj (p := ((i : Int) < (l.length : Int))) (fun h0 => ?_) fun h0 => ?_))
   ·
    refine Zk (Ft (Zs (Zb (Sq hcx [] [17] [9] [] [((0 : Int) ≤ (i : Int) ∧ (i : Int) < (l.length : Int))] ?_ (Zi (b := (l.getD i 0) != c) (fun h1 => ?_) fun h1 => ?_)))))
    ·
     refine ap ?_ az
     omega
    ·
     replace h1 := bne_iff_ne.1 h1
     have hq := h1
     exact Sz hcx [] [4] [17, 0, 1, 5] [] (Zr (Fk (Fr (Fr (Fk (Fr (Rv hcx (congrArg AV.bool (show false = (l.all fun x => x == c) from (by first | exact (Cn.k2e (i := i) (by omega) hq).symm | exact (Cn.x4z (by omega) hok).symm))) [] rfl)))))))
    ·
     replace h1 := k0y h1
     have hq : l.getD i 0 = c := by have := h1; omega
     refine Zk (Fb (Ft (Tq hcx [] [5] [17] [] [Fit ((i : Int) + 1)] ?_ (Lr (i + 1) ?_ ?_ (Ex 5 (congrArg AV.int (show ((i : Int) + 1) = ((i + 1) : Int) from (by first | rfl | omega | (simp; done)))) Eb) Hb))))
     ·
      refine ap ?_ az
      omega
     ·
      exact ⟨by omega, fun j hj => by rcases (by omega : j < i ∨ j = i) with h | rfl; exact hok j h; exact hq⟩
     ·
      show l.length - (i + 1) < l.length - i
      omega
   ·
    exact Ze (Fe (Fe (Fs (Ft (Sz hcx [] [4] [9, 0, 1, 5] [] (Zr (Rv hcx (congrArg AV.bool (show true = (l.all fun x => x == c) from (by first | exact (Cn.k2e (i := i) (by omega) hq).symm | exact (Cn.x4z (by omega) hok).symm))) [] rfl)))))))
 ·
  cases hσ
def z8k : Cx := ⟨z9h, [], true⟩
theorem j1b : q1g Tryz.prog z8k := q1b z0s trivial
def q9j : CtF
 | [.im (.val (.int .i64 c)), .im (.val (.int .i64 least))], [] => some (1 ≤ c ∧ c ≤ 4503599627370496 ∧ 1 ≤ least ∧ least ≤ 4503599627370496, .int ((least + c - 1).tdiv c), [])
 | _, _ => none
theorem q9p : q0o Tryz.prog 42 q9j := by
 refine Sw (cx := z8k) Tryz.f42 Tryz.func42 ?_
 intro wW wO wβ G0 args os p r outs hσ hp
 have hcx := j1b
 unfold q9j at hσ
 split at hσ
 ·
  rename_i c least
  cases hσ
  refine ⟨by kernel_rfl, ?_⟩
  obtain ⟨h_1, h_2, h_3, h_4⟩ := hp
  have hq0 : 0 ≤ (least + c - 1).tdiv c := by rw [Int.tdiv_eq_ediv_of_nonneg (by omega)]; exact Int.ediv_nonneg (by omega) (by omega)
  have hq1 : (least + c - 1).tdiv c ≤ least + c - 1 := by rw [Int.tdiv_eq_ediv_of_nonneg (by omega)]; exact Int.ediv_le_self _ (by omega)
  refine Sz hcx [] [] [] [] (Sq hcx [] [4] [0, 1] [] [Fit (least + c), Fit ((least + c) - 1), ((c : Int) ≠ 0 ∧ Fit (((least + c) - 1).tdiv c))] ?_ (Zr (Ru hcx [])))
  ·
   refine ap ?_ (ap ?_ (ap ?_ az)) <;>
    omega
 ·
  cases hσ
def j8z : Cx := ⟨z9h, [(85, (q2g [.ld (.ints []), .id] j0i)), (42, q9j)], true⟩
theorem j8f : q1g Tryz.prog j8z := q1b z0s ⟨(j3p.coe [.ld (.ints []), .id] rfl), q9p, trivial⟩
def j6r : CtF
 | [.agg [.im (.ls (.ints C)), .im (.ls (.ints L)), .im (.val (.int .i64 B))]], [] => some (Cn.q2u C B ∧ (C.length = 0 → B = 0 ∨ B = 1), .int (Cn.q1q C B), [])
 | _, _ => none
theorem j7r : q0o Tryz.prog 36 j6r := by
 refine Sw (cx := j8z) Tryz.f36 Tryz.func36 ?_
 intro wW wO wβ G0 args os p r outs hσ hp
 have hcx := j8f
 have hmx : Tryz.prog.follows .mixedOrders = true := by kernel_rfl
 unfold j6r at hσ
 split at hσ
 ·
  rename_i C L B
  cases hσ
  refine ⟨by kernel_rfl, ?_⟩
  obtain ⟨hn, hz⟩ := hp
  have hl := hn.1
  have hb := Cn.y2v hn
  have hc0 := Cn.k1u hn
  have hnk := fun h => Cn.x9t hn h
  refine Sz hcx [(1000, .frz)] [1] [0] [] (Sz hcx [] [3] [] [] (Zs (Sz hcx [] [8] [] [] (Zu (a := (C.length : Int)) (b := 0) (fun h0 => ?_) fun h0 => ?_))))
  ·
   have hr := Cn.k9k h0 hz
   refine Sq hcx [] [2] [8, 3, 1] [] [Fit (5 + B)] ?_ (Zr (Fr (Rv hcx (congrArg AV.int (show (5 + B) = (Cn.q1q C B) from (by exact hr.symm))) [] rfl)))
   ·
    refine ap ?_ az
    omega
  ·
   have h8_ := h0
   obtain ⟨k1, k2, k3, k4⟩ := hc0 h8_
   have hcm := hn.2.1 _ (Cn.q0u (d := (0 : Int)) (l := C) (k := 0) (by omega))
   refine Zk (Ft (Zs (Sq hcx [] [16] [8] [] [(C.length ≤ maxLen)] ?_ (Zi (b := C.all fun x => x == B) (fun h1 => ?_) fun h1 => ?_))))
   ·
    refine ap ?_ az
    (unfold maxLen; omega)
   ·
    have hr := Cn.k9q h8_ h1
    exact Sz hcx [] [2] [16, 3, 1] [] (Zr (Fr (Rv hcx (congrArg AV.int (show 1 = (Cn.q1q C B) from (by exact hr.symm))) [] rfl)))
   ·
    have h16_ := Cn.k6r h8_ h1
    refine Zk (Ft (Zs (Sd hcx hmx [0, 1, 0, 4, 12, 28, 63, 127] [] [24] [16] [] [((0 : Int) ≤ 0 ∧ 0 < (C.length : Int)), (C.length ≤ maxLen)] ?_ (Zi (b := !(C.all fun x => x == (C.getD 0 0))) (fun h2 => ?_) fun h2 => ?_))))
    ·
     refine ap ?_ (ap ?_ az) <;>
      first | omega | (unfold maxLen; omega)
    ·
     have hr := Cn.k9i (B := B) h8_ (Cn.k7v h2)
     exact Sz hcx [] [2] [24, 3, 1] [] (Zr (Fr (Rv hcx (congrArg AV.int (show 4 = (Cn.q1q C B) from (by exact hr.symm))) [] rfl)))
    ·
     have h24_ := Cn.k8u h2
     have hK := Cn.x4x hn h8_ h24_
     have hkk := hnk ((Cn.z1v h8_).trans h24_)
     refine Zk (Ft (Zs (Sz hcx [] [26] [24] [] (Zj (p := ((C.length : Int) ≤ 10)) (fun h3 => ?_) fun h3 => ?_))))
     ·
      have hr := Cn.k9j h8_ h16_ h24_ h3
      exact Sz hcx [] [2] [26, 3, 1] [] (Zr (Fr (Rv hcx (congrArg AV.int (show 2 = (Cn.q1q C B) from (by exact hr.symm))) [] rfl)))
     ·
      have h26_ := h3
      refine Zk (Ft (Zs (Sd hcx hmx [0, 0, 2, 6, 14, 0, 32, 126, 255, 511] [] [36] [26, 3, 1] [] [((0 : Int) ≤ 0 ∧ 0 < (C.length : Int)), (1 ≤ (C.getD 0 0) ∧ (C.getD 0 0) ≤ 4503599627370496 ∧ 1 ≤ B ∧ B ≤ 4503599627370496), Fit ((C.length : Int) * ((B + (C.getD 0 0) - 1).tdiv (C.getD 0 0)))] ?_ (Zj (p := (((C.length : Int) * ((B + (C.getD 0 0) - 1).tdiv (C.getD 0 0))) ≤ 400)) (fun h4 => ?_) fun h4 => ?_))))
      ·
       refine ap ?_ (ap ?_ (ap ?_ az)) <;>
        first | omega | (rw [hK]; omega)
      ·
       have hr := Cn.k9f h8_ h16_ h24_ h26_ (hK ▸ h4)
       exact Sz hcx [] [2] [36] [] (Zr (Fr (Rv hcx (congrArg AV.int (show 3 = (Cn.q1q C B) from (by exact hr.symm))) [] rfl)))
      ·
       have hr := Cn.k6k h8_ h16_ h26_ (hK ▸ h4)
       exact Zk (Ft (Sz hcx [] [2] [36] [] (Zr (Rv hcx (congrArg AV.int (show 4 = (Cn.q1q C B) from (by exact hr.symm))) [] rfl))))
 ·
  cases hσ
end Go.Proofs.YtkkapbnopmmmjaaGreatDoor.En
namespace Go.Proofs.YtkkapbnopmmmjaaGreatDoor.En
open Go Go.RowKit
def j6u : List (Nat × TD) := [(3, ⟨1, false, [.int .i64 0], [], none, 8, false, 1, 1⟩),
 (22, ⟨1, false, [.slice none 0 0], [], some 3, 24, false, 0, 3⟩),
 (24, ⟨3, true, [.slice none 0 0, .slice none 0 0, .int .i64 0], [(0, 22), (1, 22), (2, 3)], none, 56, false, 0, 5⟩),
 (26, ⟨1, false, [.int .i64 0], [], none, 8, false, 1, 1⟩),
 (30, ⟨1, false, [.slice none 0 0], [], some 22, 24, false, 0, 0⟩)]
theorem z7z : q7v Tryz.prog j6u := ⟨⟨by kernel_rfl, by kernel_rfl, by kernel_rfl⟩, ⟨by kernel_rfl, by kernel_rfl, by kernel_rfl⟩, ⟨by kernel_rfl, by kernel_rfl, by kernel_rfl⟩, ⟨by kernel_rfl, by kernel_rfl, by kernel_rfl⟩, ⟨by kernel_rfl, by kernel_rfl, by kernel_rfl⟩, trivial⟩
def z3t : Cx := ⟨j6u, [], true⟩
theorem z6i : q1g Tryz.prog z3t := q1b z7z trivial
def z1c : CtF
 | [.im (.ls (.intss c)), .im (.val (.int .i64 g))], [] => some (c.length ≤ 1000000000 ∧ (∀ l ∈ c, l.length ≤ 1000000000) ∧ -65537 ≤ g ∧ g ≤ 65537, .row 0, [some (.row 22 (.intss (Cn.grd g c)))])
 | _, _ => none
theorem z6g : q0o Tryz.prog 41 z1c := by
 refine Sw (cx := z3t) Tryz.f41 Tryz.func41 ?_
 intro wW wO wβ G0 args os p r outs hσ hp
 have hcx := z6i
 unfold z1c at hσ
 split at hσ
 ·
  rename_i c g
  cases hσ
  refine ⟨by kernel_rfl, ?_⟩
  obtain ⟨hm1, hm2, hg1, hg2⟩ := hp
  have hb := fun i (h : i < c.length) => hm2 _ (Cn.q0u (d := ([] : List Int)) (k := i) h)
  refine Sz hcx [] [] [] [] (Sz hcx [(1000, .to 208)] [5] [] [] (Zs (Sz hcx [] [6] [] [] (Zb (Zn [(208, .to 700)] [0, 1, 5, 6] (Lp (X := Nat) (fun x0 => x0 ≤ c.length) (fun x0 => ([(0, .intss c), (1, .int g), (5, .row 700), (6, .int (x0 : Int))], [(700, .row 22 (.intss (Cn.grd g (c.take x0))))])) (fun x0 => c.length - x0) (0) ?_ (Ex 6 (congrArg AV.int (show 0 = (0 : Int) from (by first | rfl | omega | (simp; done)))) Eb) Hb fun i hI => ?_))))))
  ·
   show 0 ≤ c.length
   omega
  ·
   replace hI : i ≤ c.length := hI
   have hbi := hb i
   have hgl := Cn.x5b g c i
   refine Zs (Sz hcx [] [12] [] [] (Zj (p := ((i : Int) < (c.length : Int))) (fun h0 => ?_) fun h0 => ?_))
   ·
    refine Zk (Ft (Zs (Zb (Sz hcx [(1000, .to 215)] [7] [12] [] (Zs (Sz hcx [] [17] [] [] (Zx (a := g) (b := 0) (fun h1 => ?_) fun h1 => ?_)))))))
    ·
     have h17_ := h1
     refine Tq hcx [(1004, .to 215)] [7] [17] [215] [Fit (-g), ((([] : List Int).length + [(-g)].length) * 8 ≤ 140737488355328)] ?_ (Ft (Sq hcx [(1005, .to 215)] [7] [] [215] [((0 : Int) ≤ (i : Int) ∧ (i : Int) < (c.length : Int)), ((([] ++ [(-g)]).length + (c.getD i []).length) * 8 ≤ 140737488355328)] ?_ (Tq hcx [(1003, .to 700)] [5] [7] [215, 700] [(((Cn.grd g (c.take i)).length + [(([] ++ [(-g)]) ++ (c.getD i []))].length) * 24 ≤ 140737488355328)] ?_ (Fb (Ft (Tq hcx [] [6] [] [] [Fit ((i : Int) + 1)] ?_ (Lr (i + 1) ?_ ?_ (Ex 6 (congrArg AV.int (show ((i : Int) + 1) = ((i + 1) : Int) from (by first | rfl | omega | (simp; done)))) Eb) (Hx 700 (congrArg (fun x => q0d.row 22 (.intss x)) (show ((Cn.grd g (c.take i)) ++ [(([] ++ [(-g)]) ++ (c.getD i []))]) = (Cn.grd g (c.take (i + 1))) from (by first | exact Cn.k5y (by omega) h17_ | exact Cn.k5j (by omega) (by omega)))) Hb))))))))
     ·
      refine ap ?_ (ap ?_ az) <;>
       first | omega | (simp only [List.length_cons, List.length_nil, List.length_append, List.length_map, List.length_set, List.length_replicate]; omega)
     ·
      refine ap ?_ (ap ?_ az) <;>
       first | omega | (simp only [List.length_cons, List.length_nil, List.length_append, List.length_map, List.length_set, List.length_replicate]; omega)
     ·
      refine ap ?_ az
      (simp only [List.length_cons, List.length_nil, List.length_append, List.length_map, List.length_set, List.length_replicate]; omega)
     ·
      refine ap ?_ az
      omega
     ·
      show (i + 1) ≤ c.length
      omega
     ·
      show c.length - (i + 1) < c.length - i
      omega
    ·
     have h17_ := h1
     refine Zk (Ft (Sq hcx [(1005, .to 215)] [7] [17] [215] [((0 : Int) ≤ (i : Int) ∧ (i : Int) < (c.length : Int)), ((([] : List Int).length + (c.getD i []).length) * 8 ≤ 140737488355328)] ?_ (Tq hcx [(1003, .to 700)] [5] [7] [215, 700] [(((Cn.grd g (c.take i)).length + [([] ++ (c.getD i []))].length) * 24 ≤ 140737488355328)] ?_ (Fb (Ft (Tq hcx [] [6] [] [] [Fit ((i : Int) + 1)] ?_ (Lr (i + 1) ?_ ?_ (Ex 6 (congrArg AV.int (show ((i : Int) + 1) = ((i + 1) : Int) from (by first | rfl | omega | (simp; done)))) Eb) (Hx 700 (congrArg (fun x => q0d.row 22 (.intss x)) (show ((Cn.grd g (c.take i)) ++ [([] ++ (c.getD i []))]) = (Cn.grd g (c.take (i + 1))) from (by first | exact Cn.k5y (by omega) h17_ | exact Cn.k5j (by omega) (by omega)))) Hb))))))))
     ·
      refine ap ?_ (ap ?_ az) <;>
       first | omega | (simp only [List.length_cons, List.length_nil, List.length_append, List.length_map, List.length_set, List.length_replicate]; omega)
     ·
      refine ap ?_ az
      (simp only [List.length_cons, List.length_nil, List.length_append, List.length_map, List.length_set, List.length_replicate]; omega)
     ·
      refine ap ?_ az
      omega
     ·
      show (i + 1) ≤ c.length
      omega
     ·
      show c.length - (i + 1) < c.length - i
      omega
   ·
    exact Ze (Fe (Fe (Fs (Ft (Sz hcx [] [4] [12, 0, 1, 5, 6] [] (Zr (Fn [(700, .to 0)] [4] (Rv hcx rfl [true] (q0r (congrArg some (congrArg (fun x => q0d.row 22 (.intss x)) (show (Cn.grd g (c.take i)) = (Cn.grd g c) from (by (rw [show i = c.length by omega, List.take_length]))))) rfl)))))))))
 ·
  cases hσ
def j4d : Cx := ⟨j6u, [(41, (q2g [.ld (.intss []), .id] z1c)), (35, (q2g [.agg [.ld (.ints []), .ld (.ints []), .id], .id] q7t)), (37, (q2g [.agg [.ld (.ints []), .ld (.ints []), .id]] z4x)), (36, (q2g [.agg [.ld (.ints []), .ld (.ints []), .id]] j6r)), (42, q9j), (40, (q2g [.ld (.ints []), .id] q4y)), (43, (q2g [.ld (.ints []), .id, .id] z1i)), (44, (q2g [.ld (.ints []), .id, .id] z1l)), (45, (q2g [.ld (.ints []), .ld (.ints []), .id] z8v)), (46, (q2g [.ld (.ints []), .id] z1b))], true⟩
theorem j4o : q1g Tryz.prog j4d := q1b z7z ⟨(z6g.coe [.ld (.intss []), .id] rfl), (q8i.coe [.agg [.ld (.ints []), .ld (.ints []), .id], .id] rfl), (j1k.coe [.agg [.ld (.ints []), .ld (.ints []), .id]] rfl), (j7r.coe [.agg [.ld (.ints []), .ld (.ints []), .id]] rfl), q9p, (q3u.coe [.ld (.ints []), .id] rfl), (z5x.coe [.ld (.ints []), .id, .id] rfl), (z6j.coe [.ld (.ints []), .id, .id] rfl), (j4f.coe [.ld (.ints []), .ld (.ints []), .id] rfl), (z6t.coe [.ld (.ints []), .id] rfl), trivial⟩
def j0m : CtF
 | [.agg [.im (.ls (.ints C)), .im (.ls (.ints L)), .im (.val (.int .i64 B))], .im (.val (.int .i64 g)), .im (.val (.int .i64 next))], [] => some (C.length ≤ 40 ∧ L.length ≤ 40 ∧ Fit g ∧ Fit next, .tup [.intss ((Cn.q0e C L B g next).1), .int ((Cn.q0e C L B g next).2.1), .int ((Cn.q0e C L B g next).2.2)], [])
 | _, _ => none
set_option maxRecDepth 4000 in
set_option maxHeartbeats 4000000 in
theorem j4r : q0o Tryz.prog 13 j0m := by
 refine Sw (cx := j4d) Tryz.f13 Tryz.func13 ?_
 intro wW wO wβ G0 args os p r outs hσ hp
 have hcx := j4o
 have hmx : Tryz.prog.follows .mixedOrders = true := by kernel_rfl
 unfold j0m at hσ
 split at hσ
 ·
  rename_i C L B g next
  cases hσ
  refine ⟨by kernel_rfl, ?_⟩
  obtain ⟨hC, hL, hf1, hf2⟩ := hp
  refine Sz hcx [(1000, .frz)] [3] [0] [] (Zs (Sq hcx [] [30] [] [] [((!(decide (next < 1))) = true → ((!(decide (next < 1))) = true)), ((decide (next < 1)) = false → (!(decide (next < 1))) = true)] ?_ (Zi (b := (decide (next < 1)) || (decide (next > 65537))) (fun h0 => ?_) fun h0 => ?_)))
  ·
   refine ap ?_ (ap (by exact q1v) az)
   exact id
  ·
   have hr := Cn.j9v (C := C) (L := L) (B := B) (g := g) (Cn.k6a.1 h0)
   exact Sz hcx [] [6, 7, 8] [30, 3, 1, 2] [] (Zr (Fr (Fp 6 (.intss []) (Rv hcx (congrArg AV.tup (q0c (congrArg AV.intss (show [] = (Cn.q0e C L B g next).1 from (by first | (rw [hr]; done) | (rw [hr2]; done) | (rw [hT, hr2]; done) | (rw [hT, hK, hr2]; done) | (rw [hK, hr2]; done) | (rw [hr2]; simp; done)))) (q0c (congrArg AV.int (show 0 = (Cn.q0e C L B g next).2.1 from (by first | (rw [hr]; done) | (rw [hr2]; done) | (rw [hT, hr2]; done) | (rw [hT, hK, hr2]; done) | (rw [hK, hr2]; done) | (rw [hr2]; simp; done)))) (q0c (congrArg AV.int (show 1 = (Cn.q0e C L B g next).2.2 from (by first | (rw [hr]; done) | (rw [hr2]; done) | (rw [hT, hr2]; done) | (rw [hT, hK, hr2]; done) | (rw [hK, hr2]; done) | (rw [hr2]; simp; done)))) rfl)))) [] rfl))))
  ·
   have h30_ := Cn.x8g h0
   refine Zk (Ft (Sq hcx [] [9] [30] [] [Fit (next - 1), (L.length ≤ maxLen ∧ Fit (next - 1))] ?_ (Zs (Sz hcx [] [36] [] [] (Zx (a := (q0m ⟨C, L, B⟩ (next - 1))) (b := 0) (fun h1 => ?_) fun h1 => ?_)))))
   ·
    refine ap ?_ (ap ?_ az) <;>
     first | omega | exact ⟨by unfold maxLen; omega, by constructor <;> omega⟩
   ·
    have hr := Cn.j9b (g := g) h30_ h1
    exact Sz hcx [] [6, 7, 8] [36, 9, 3, 1, 2] [] (Zr (Fr (Fp 6 (.intss []) (Rv hcx (congrArg AV.tup (q0c (congrArg AV.intss (show [] = (Cn.q0e C L B g next).1 from (by first | (rw [hr]; done) | (rw [hr2]; done) | (rw [hT, hr2]; done) | (rw [hT, hK, hr2]; done) | (rw [hK, hr2]; done) | (rw [hr2]; simp; done)))) (q0c (congrArg AV.int (show 0 = (Cn.q0e C L B g next).2.1 from (by first | (rw [hr]; done) | (rw [hr2]; done) | (rw [hT, hr2]; done) | (rw [hT, hK, hr2]; done) | (rw [hK, hr2]; done) | (rw [hr2]; simp; done)))) (q0c (congrArg AV.int (show q0m ⟨C, L, B⟩ (next - 1) = (Cn.q0e C L B g next).2.2 from (by first | (rw [hr]; done) | (rw [hr2]; done) | (rw [hT, hr2]; done) | (rw [hT, hK, hr2]; done) | (rw [hK, hr2]; done) | (rw [hr2]; simp; done)))) rfl)))) [] rfl))))
   ·
    have h36_ : q0m ⟨C, L, B⟩ (next - 1) = 0 := by have := h1; omega
    obtain ⟨n1, n2, n3⟩ := Cn.z3o h36_
    have hns := z6z (by omega) (by omega) h36_
    have hCl : (q0b ⟨C, L, B⟩).C.length ≤ 40 := Nat.le_trans hns.2.2.1 hL
    have hLl : (q0b ⟨C, L, B⟩).L.length ≤ 40 := by rw [n2]; exact hCl
    have hx1 : ∀ x ∈ (q0b ⟨C, L, B⟩).L, -65537 ≤ x ∧ x ≤ 65537 := fun x hx => by have := n3 x hx; omega
    have hx2 : ∀ x ∈ (q0b ⟨C, L, B⟩).L, -70000 ≤ x ∧ x ≤ 70000 := fun x hx => by have := n3 x hx; omega
    refine Zk (Ft (Zs (Sq hcx [] [46] [36, 9] [] [((g != 0) = true → ((g != 0) = true)), ((g != 0) = true → ((g != 0) = true)), ((g != 0) = true → ((g != 0) = true)), ((g != 0) = true → ([g].length ≤ maxLen ∧ (∀ x ∈ [g], -9223372036854775808 ≤ x ∧ x ≤ 9223372036854775807) ∧ next ≤ 70000 ∧ -9223372036854775808 ≤ next)), ((g != 0) = true → ((g != 0) = true)), ((g != 0) = true → (g != 0) = true)] ?_ (Zi (b := (g != 0) && ((Cn.q9e next [g]) != 0)) (fun h2 => ?_) fun h2 => ?_))))
    ·
     refine ap ?_ (ap ?_ (ap ?_ (ap ?_ (ap ?_ (ap (by exact id) az))))) <;>
      first | exact id | (intro _; exact ⟨by show (1 : Nat) ≤ maxLen; decide, fun x hx => by rw [List.mem_singleton.1 hx]; exact hf1, by omega, hf2.1⟩)
    ·
     have hr := Cn.y1a h30_ h36_ (Cn.k9l (by omega) h2)
     exact Sz hcx [] [6, 7, 8] [46, 3, 1, 2] [] (Zr (Fr (Fp 6 (.intss []) (Rv hcx (congrArg AV.tup (q0c (congrArg AV.intss (show [] = (Cn.q0e C L B g next).1 from (by first | (rw [hr]; done) | (rw [hr2]; done) | (rw [hT, hr2]; done) | (rw [hT, hK, hr2]; done) | (rw [hK, hr2]; done) | (rw [hr2]; simp; done)))) (q0c (congrArg AV.int (show 0 = (Cn.q0e C L B g next).2.1 from (by first | (rw [hr]; done) | (rw [hr2]; done) | (rw [hT, hr2]; done) | (rw [hT, hK, hr2]; done) | (rw [hK, hr2]; done) | (rw [hr2]; simp; done)))) (q0c (congrArg AV.int (show 140 = (Cn.q0e C L B g next).2.2 from (by first | (rw [hr]; done) | (rw [hr2]; done) | (rw [hT, hr2]; done) | (rw [hT, hK, hr2]; done) | (rw [hK, hr2]; done) | (rw [hr2]; simp; done)))) rfl)))) [] rfl))))
    ·
     have h46_ := Cn.k9e (by omega) h2
     have hr := Cn.x4j h30_ h36_ h46_
     refine Zk (Ft (Sq hcx [(1001, .to 248), (1002, .to 610), (2001, .to 900)] [10] [46, 3] [] [(C.length ≤ maxLen ∧ L.length ≤ maxLen)] ?_ (Zs (Zs (Zn [(610, .to 610), (900, .to 900), (248, .frz)] [10, 1, 2] (Zn [(610, .to 610), (900, .frz)] [10, 1, 2] (Tq hcx [] [50] [] [] [(Cn.q2u ((q0b ⟨C, L, B⟩).C) ((q0b ⟨C, L, B⟩).B) ∧ (((q0b ⟨C, L, B⟩).C).length = 0 → ((q0b ⟨C, L, B⟩).B) = 0 ∨ ((q0b ⟨C, L, B⟩).B) = 1))] ?_ (Ft (Zb (Sz hcx [] [51] [] [] (Zu (a := (Cn.q1q ((q0b ⟨C, L, B⟩).C) ((q0b ⟨C, L, B⟩).B))) (b := 1) (fun h3 => ?_) fun h3 => ?_)))))))))))
     ·
      refine ap ?_ az
      exact ⟨by unfold maxLen; omega, by unfold maxLen; omega⟩
     ·
      refine ap ?_ az
      exact ⟨n1, Cn.k1r (z7x _)⟩
     ·
      have hr2 := hr.trans (Cn.q9g h3)
      refine Sq hcx [(1004, .to 257)] [6, 7, 8] [51, 50, 10, 1, 2] [610] [([(q0b ⟨C, L, B⟩).L].length ≤ 1000000000 ∧ (∀ l ∈ [(q0b ⟨C, L, B⟩).L], l.length ≤ 1000000000) ∧ -65537 ≤ g ∧ g ≤ 65537)] ?_ (Zr (Fk (Fr (Fn [(257, .frz)] [6, 7, 8] (Rv hcx (congrArg AV.tup (q0c (congrArg AV.intss (show (Cn.grd g [(q0b ⟨C, L, B⟩).L]) = (Cn.q0e C L B g next).1 from (by first | (rw [hr]; done) | (rw [hr2]; done) | (rw [hT, hr2]; done) | (rw [hT, hK, hr2]; done) | (rw [hK, hr2]; done) | (rw [hr2]; simp; done)))) (q0c (congrArg AV.int (show next = (Cn.q0e C L B g next).2.1 from (by first | (rw [hr]; done) | (rw [hr2]; done) | (rw [hT, hr2]; done) | (rw [hT, hK, hr2]; done) | (rw [hK, hr2]; done) | (rw [hr2]; simp; done)))) (q0c (congrArg AV.int (show 0 = (Cn.q0e C L B g next).2.2 from (by first | (rw [hr]; done) | (rw [hr2]; done) | (rw [hT, hr2]; done) | (rw [hT, hK, hr2]; done) | (rw [hK, hr2]; done) | (rw [hr2]; simp; done)))) rfl)))) [] rfl)))))
      ·
       refine ap ?_ az
       exact ⟨by show (1 : Nat) ≤ _; decide, fun x hx => by rw [List.mem_singleton.1 hx]; first | omega | (show (1 : Nat) ≤ _; decide) | (show (0 : Nat) ≤ _; decide), by omega, by omega⟩
     ·
      have h51_ := h3
      refine Sz hcx [] [59] [51] [] (Zu (a := (Cn.q1q ((q0b ⟨C, L, B⟩).C) ((q0b ⟨C, L, B⟩).B))) (b := 2) (fun h4 => ?_) fun h4 => ?_)
      ·
       have h59_ := h4
       obtain ⟨hK, k1, k2, k3, k4, k5, k6⟩ := Cn.k8z n1 (.inl h59_)
       have hT : Cn.q4g (((q0b ⟨C, L, B⟩).B + (q0b ⟨C, L, B⟩).C.getD 0 0 - 1).tdiv ((q0b ⟨C, L, B⟩).C.getD 0 0)) (q0b ⟨C, L, B⟩).L next = (Cn.q1w (Cn.evK (q0b ⟨C, L, B⟩).C (q0b ⟨C, L, B⟩).B) (q0b ⟨C, L, B⟩).L next) := by rw [hK, Cn.x9p]
       have htl := Cn.y0e (next := next) (k := (Cn.evK (q0b ⟨C, L, B⟩).C (q0b ⟨C, L, B⟩).B)) hx1
       refine Sd hcx hmx [0, 1, 3, 7, 0, 16, 63, 127] [] [11] [59, 50] [] [((0 : Int) ≤ 0 ∧ 0 < (((q0b ⟨C, L, B⟩).C).length : Int)), (1 ≤ (((q0b ⟨C, L, B⟩).C).getD 0 0) ∧ (((q0b ⟨C, L, B⟩).C).getD 0 0) ≤ 4503599627370496 ∧ 1 ≤ ((q0b ⟨C, L, B⟩).B) ∧ ((q0b ⟨C, L, B⟩).B) ≤ 4503599627370496)] ?_ (Sq hcx [(1004, .to 273)] [12, 13, 14, 15] [10, 2] [610] [(((q0b ⟨C, L, B⟩).L).length ≤ maxLen ∧ (∀ x ∈ ((q0b ⟨C, L, B⟩).L), -65537 ≤ x ∧ x ≤ 65537) ∧ Fit ((((q0b ⟨C, L, B⟩).B) + (((q0b ⟨C, L, B⟩).C).getD 0 0) - 1).tdiv (((q0b ⟨C, L, B⟩).C).getD 0 0)) ∧ Fit next)] ?_ (Zs (Sz hcx [] [79] [] [] (Zx (a := ((Cn.q4g ((((q0b ⟨C, L, B⟩).B) + (((q0b ⟨C, L, B⟩).C).getD 0 0) - 1).tdiv (((q0b ⟨C, L, B⟩).C).getD 0 0)) ((q0b ⟨C, L, B⟩).L) next).2.2.2)) (b := 0) (fun h5 => ?_) fun h5 => ?_))))
       ·
        refine ap ?_ (ap ?_ az) <;>
         omega
       ·
        refine ap ?_ az
        exact ⟨by unfold maxLen; omega, by constructor <;> omega⟩
       ·
        rw [hT] at h5
        have hr2 := hr.trans (Cn.k1t h59_ h5)
        exact Sz hcx [] [6, 7, 8] [79, 12, 13, 14, 15, 11, 1] [273] (Zr (Fr (Fk (Fr (Fp 6 (.intss []) (Rv hcx (congrArg AV.tup (q0c (congrArg AV.intss (show [] = (Cn.q0e C L B g next).1 from (by first | (rw [hr]; done) | (rw [hr2]; done) | (rw [hT, hr2]; done) | (rw [hT, hK, hr2]; done) | (rw [hK, hr2]; done) | (rw [hr2]; simp; done)))) (q0c (congrArg AV.int (show 0 = (Cn.q0e C L B g next).2.1 from (by first | (rw [hr]; done) | (rw [hr2]; done) | (rw [hT, hr2]; done) | (rw [hT, hK, hr2]; done) | (rw [hK, hr2]; done) | (rw [hr2]; simp; done)))) (q0c (congrArg AV.int (show (Cn.q4g ((((q0b ⟨C, L, B⟩).B) + (((q0b ⟨C, L, B⟩).C).getD 0 0) - 1).tdiv (((q0b ⟨C, L, B⟩).C).getD 0 0)) ((q0b ⟨C, L, B⟩).L) next).2.2.2 = (Cn.q0e C L B g next).2.2 from (by first | (rw [hr]; done) | (rw [hr2]; done) | (rw [hT, hr2]; done) | (rw [hT, hK, hr2]; done) | (rw [hK, hr2]; done) | (rw [hr2]; simp; done)))) rfl)))) [] rfl))))))
       ·
        have h79_ : (Cn.q1w (Cn.evK (q0b ⟨C, L, B⟩).C (q0b ⟨C, L, B⟩).B) (q0b ⟨C, L, B⟩).L next).2.2.2 = 0 := by have := h5; rw [hT] at this; omega
        have hr2 := hr.trans (Cn.k6e n1 n2 h59_ h79_)
        have hol := Cn.x6m n1 n2 h59_ h79_
        refine Zk (Ft (Sq hcx [(1010, .to 273)] [6, 7, 8] [79, 12, 13, 14, 15, 11, 1] [273] [Fit (((((q0b ⟨C, L, B⟩).B) + (((q0b ⟨C, L, B⟩).C).getD 0 0) - 1).tdiv (((q0b ⟨C, L, B⟩).C).getD 0 0)) - 1), ((0 : Int) ≤ (((((q0b ⟨C, L, B⟩).B) + (((q0b ⟨C, L, B⟩).C).getD 0 0) - 1).tdiv (((q0b ⟨C, L, B⟩).C).getD 0 0)) - 1) ∧ (((((q0b ⟨C, L, B⟩).B) + (((q0b ⟨C, L, B⟩).C).getD 0 0) - 1).tdiv (((q0b ⟨C, L, B⟩).C).getD 0 0)) - 1) < (((Cn.q4g ((((q0b ⟨C, L, B⟩).B) + (((q0b ⟨C, L, B⟩).C).getD 0 0) - 1).tdiv (((q0b ⟨C, L, B⟩).C).getD 0 0)) ((q0b ⟨C, L, B⟩).L) next).1).length : Int)), ([[(((Cn.q4g ((((q0b ⟨C, L, B⟩).B) + (((q0b ⟨C, L, B⟩).C).getD 0 0) - 1).tdiv (((q0b ⟨C, L, B⟩).C).getD 0 0)) ((q0b ⟨C, L, B⟩).L) next).1).getD ((((((q0b ⟨C, L, B⟩).B) + (((q0b ⟨C, L, B⟩).C).getD 0 0) - 1).tdiv (((q0b ⟨C, L, B⟩).C).getD 0 0)) - 1).toNat) 0)]].length ≤ 1000000000 ∧ (∀ l ∈ [[(((Cn.q4g ((((q0b ⟨C, L, B⟩).B) + (((q0b ⟨C, L, B⟩).C).getD 0 0) - 1).tdiv (((q0b ⟨C, L, B⟩).C).getD 0 0)) ((q0b ⟨C, L, B⟩).L) next).1).getD ((((((q0b ⟨C, L, B⟩).B) + (((q0b ⟨C, L, B⟩).C).getD 0 0) - 1).tdiv (((q0b ⟨C, L, B⟩).C).getD 0 0)) - 1).toNat) 0)]], l.length ≤ 1000000000) ∧ -65537 ≤ g ∧ g ≤ 65537), ((((Cn.q4g ((((q0b ⟨C, L, B⟩).B) + (((q0b ⟨C, L, B⟩).C).getD 0 0) - 1).tdiv (((q0b ⟨C, L, B⟩).C).getD 0 0)) ((q0b ⟨C, L, B⟩).L) next).2.1).length + (Cn.grd g [[(((Cn.q4g ((((q0b ⟨C, L, B⟩).B) + (((q0b ⟨C, L, B⟩).C).getD 0 0) - 1).tdiv (((q0b ⟨C, L, B⟩).C).getD 0 0)) ((q0b ⟨C, L, B⟩).L) next).1).getD ((((((q0b ⟨C, L, B⟩).B) + (((q0b ⟨C, L, B⟩).C).getD 0 0) - 1).tdiv (((q0b ⟨C, L, B⟩).C).getD 0 0)) - 1).toNat) 0)]]).length) * 24 ≤ 140737488355328)] ?_ (Zr (Fk (Fr (Fn [(273, .frz)] [6, 7, 8] (Rv hcx (congrArg AV.tup (q0c (congrArg AV.intss (show (((Cn.q4g ((((q0b ⟨C, L, B⟩).B) + (((q0b ⟨C, L, B⟩).C).getD 0 0) - 1).tdiv (((q0b ⟨C, L, B⟩).C).getD 0 0)) ((q0b ⟨C, L, B⟩).L) next).2.1) ++ (Cn.grd g [[(((Cn.q4g ((((q0b ⟨C, L, B⟩).B) + (((q0b ⟨C, L, B⟩).C).getD 0 0) - 1).tdiv (((q0b ⟨C, L, B⟩).C).getD 0 0)) ((q0b ⟨C, L, B⟩).L) next).1).getD ((((((q0b ⟨C, L, B⟩).B) + (((q0b ⟨C, L, B⟩).C).getD 0 0) - 1).tdiv (((q0b ⟨C, L, B⟩).C).getD 0 0)) - 1).toNat) 0)]])) = (Cn.q0e C L B g next).1 from (by first | (rw [hr]; done) | (rw [hr2]; done) | (rw [hT, hr2]; done) | (rw [hT, hK, hr2]; done) | (rw [hK, hr2]; done) | (rw [hr2]; simp; done)))) (q0c (congrArg AV.int (show (Cn.q4g ((((q0b ⟨C, L, B⟩).B) + (((q0b ⟨C, L, B⟩).C).getD 0 0) - 1).tdiv (((q0b ⟨C, L, B⟩).C).getD 0 0)) ((q0b ⟨C, L, B⟩).L) next).2.2.1 = (Cn.q0e C L B g next).2.1 from (by first | (rw [hr]; done) | (rw [hr2]; done) | (rw [hT, hr2]; done) | (rw [hT, hK, hr2]; done) | (rw [hK, hr2]; done) | (rw [hr2]; simp; done)))) (q0c (congrArg AV.int (show 0 = (Cn.q0e C L B g next).2.2 from (by first | (rw [hr]; done) | (rw [hr2]; done) | (rw [hT, hr2]; done) | (rw [hT, hK, hr2]; done) | (rw [hK, hr2]; done) | (rw [hr2]; simp; done)))) rfl)))) [] rfl)))))))
        ·
         refine ap ?_ (ap ?_ (ap ?_ (ap ?_ az))) <;>
          first | omega | (rw [hT, hK]; constructor <;> omega) | exact ⟨by show (1 : Nat) ≤ _; decide, fun x hx => by rw [List.mem_singleton.1 hx]; first | omega | (show (1 : Nat) ≤ _; decide) | (show (0 : Nat) ≤ _; decide), by omega, by omega⟩ | (rw [hT, Cn.q4q]; simp only [List.length_cons, List.length_nil]; omega)
      ·
       have h59_ := h4
       refine Sz hcx [] [93] [59] [] (Zu (a := (Cn.q1q ((q0b ⟨C, L, B⟩).C) ((q0b ⟨C, L, B⟩).B))) (b := 3) (fun h6 => ?_) fun h6 => ?_)
       ·
        have h93_ := h6
        obtain ⟨hK, k1, k2, k3, k4, k5, k6⟩ := Cn.k8z n1 (.inr h93_)
        have hlr := Cn.y2b (L := (q0b ⟨C, L, B⟩).L) (next := next) (k := (Cn.evK (q0b ⟨C, L, B⟩).C (q0b ⟨C, L, B⟩).B))
        refine Sd hcx hmx [0, 1, 0, 4, 12, 28, 0, 64, 252, 0, 1023, 2047, 4095, 4095, 4095, 8191, 49151, 131071] [] [16, 17, 18] [93, 50, 10, 2] [610] [((0 : Int) ≤ 0 ∧ 0 < (((q0b ⟨C, L, B⟩).C).length : Int)), (1 ≤ (((q0b ⟨C, L, B⟩).C).getD 0 0) ∧ (((q0b ⟨C, L, B⟩).C).getD 0 0) ≤ 4503599627370496 ∧ 1 ≤ ((q0b ⟨C, L, B⟩).B) ∧ ((q0b ⟨C, L, B⟩).B) ≤ 4503599627370496), (((q0b ⟨C, L, B⟩).L).length ≤ maxLen ∧ (∀ x ∈ ((q0b ⟨C, L, B⟩).L), -70000 ≤ x ∧ x ≤ 70000) ∧ Fit ((((q0b ⟨C, L, B⟩).B) + (((q0b ⟨C, L, B⟩).C).getD 0 0) - 1).tdiv (((q0b ⟨C, L, B⟩).C).getD 0 0)) ∧ Fit next)] ?_ (Zs (Sz hcx [] [111] [] [] (Zx (a := ((Cn.q0i ((q0b ⟨C, L, B⟩).L) ((((q0b ⟨C, L, B⟩).B) + (((q0b ⟨C, L, B⟩).C).getD 0 0) - 1).tdiv (((q0b ⟨C, L, B⟩).C).getD 0 0)) next).2.2)) (b := 0) (fun h7 => ?_) fun h7 => ?_)))
        ·
         refine ap ?_ (ap ?_ (ap ?_ az)) <;>
          first | omega | exact ⟨by unfold maxLen; omega, by constructor <;> omega⟩
        ·
         rw [hK] at h7
         have hr2 := hr.trans (Cn.k2g h93_ h7)
         exact Sz hcx [] [6, 7, 8] [111, 16, 17, 18, 1] [] (Zr (Fr (Fk (Fr (Fp 6 (.intss []) (Rv hcx (congrArg AV.tup (q0c (congrArg AV.intss (show [] = (Cn.q0e C L B g next).1 from (by first | (rw [hr]; done) | (rw [hr2]; done) | (rw [hT, hr2]; done) | (rw [hT, hK, hr2]; done) | (rw [hK, hr2]; done) | (rw [hr2]; simp; done)))) (q0c (congrArg AV.int (show 0 = (Cn.q0e C L B g next).2.1 from (by first | (rw [hr]; done) | (rw [hr2]; done) | (rw [hT, hr2]; done) | (rw [hT, hK, hr2]; done) | (rw [hK, hr2]; done) | (rw [hr2]; simp; done)))) (q0c (congrArg AV.int (show (Cn.q0i ((q0b ⟨C, L, B⟩).L) ((((q0b ⟨C, L, B⟩).B) + (((q0b ⟨C, L, B⟩).C).getD 0 0) - 1).tdiv (((q0b ⟨C, L, B⟩).C).getD 0 0)) next).2.2 = (Cn.q0e C L B g next).2.2 from (by first | (rw [hr]; done) | (rw [hr2]; done) | (rw [hT, hr2]; done) | (rw [hT, hK, hr2]; done) | (rw [hK, hr2]; done) | (rw [hr2]; simp; done)))) rfl)))) [] rfl))))))
        ·
         have h111_ : (Cn.q0i (q0b ⟨C, L, B⟩).L (Cn.evK (q0b ⟨C, L, B⟩).C (q0b ⟨C, L, B⟩).B) next).2.2 = 0 := by have := h7; rw [hK] at this; omega
         have hr2 := hr.trans (Cn.k6h h93_ h111_)
         refine Zk (Ft (Sq hcx [(1002, .to 315)] [6, 7, 8] [111, 16, 17, 18, 1] [] [(((Cn.q0i ((q0b ⟨C, L, B⟩).L) ((((q0b ⟨C, L, B⟩).B) + (((q0b ⟨C, L, B⟩).C).getD 0 0) - 1).tdiv (((q0b ⟨C, L, B⟩).C).getD 0 0)) next).1).length ≤ 1000000000 ∧ (∀ l ∈ ((Cn.q0i ((q0b ⟨C, L, B⟩).L) ((((q0b ⟨C, L, B⟩).B) + (((q0b ⟨C, L, B⟩).C).getD 0 0) - 1).tdiv (((q0b ⟨C, L, B⟩).C).getD 0 0)) next).1), l.length ≤ 1000000000) ∧ -65537 ≤ g ∧ g ≤ 65537)] ?_ (Zr (Fk (Fr (Fn [(315, .frz)] [6, 7, 8] (Rv hcx (congrArg AV.tup (q0c (congrArg AV.intss (show (Cn.grd g ((Cn.q0i ((q0b ⟨C, L, B⟩).L) ((((q0b ⟨C, L, B⟩).B) + (((q0b ⟨C, L, B⟩).C).getD 0 0) - 1).tdiv (((q0b ⟨C, L, B⟩).C).getD 0 0)) next).1)) = (Cn.q0e C L B g next).1 from (by first | (rw [hr]; done) | (rw [hr2]; done) | (rw [hT, hr2]; done) | (rw [hT, hK, hr2]; done) | (rw [hK, hr2]; done) | (rw [hr2]; simp; done)))) (q0c (congrArg AV.int (show (Cn.q0i ((q0b ⟨C, L, B⟩).L) ((((q0b ⟨C, L, B⟩).B) + (((q0b ⟨C, L, B⟩).C).getD 0 0) - 1).tdiv (((q0b ⟨C, L, B⟩).C).getD 0 0)) next).2.1 = (Cn.q0e C L B g next).2.1 from (by first | (rw [hr]; done) | (rw [hr2]; done) | (rw [hT, hr2]; done) | (rw [hT, hK, hr2]; done) | (rw [hK, hr2]; done) | (rw [hr2]; simp; done)))) (q0c (congrArg AV.int (show 0 = (Cn.q0e C L B g next).2.2 from (by first | (rw [hr]; done) | (rw [hr2]; done) | (rw [hT, hr2]; done) | (rw [hT, hK, hr2]; done) | (rw [hK, hr2]; done) | (rw [hr2]; simp; done)))) rfl)))) [] rfl)))))))
         ·
          refine ap ?_ az
          exact ⟨by rw [hK]; omega, fun x hx => by rw [hK] at hx; have := hlr.2 x hx; omega, by omega, by omega⟩
       ·
        have h93_ := h6
        refine Sz hcx [] [117] [93] [] (Zu (a := (Cn.q1q ((q0b ⟨C, L, B⟩).C) ((q0b ⟨C, L, B⟩).B))) (b := 4) (fun h8 => ?_) fun h8 => ?_)
        ·
         have h117_ := h8
         have hsl := Cn.k3q (C := (q0b ⟨C, L, B⟩).C) (L := (q0b ⟨C, L, B⟩).L) (next := next)
         have hll := Cn.q5d (q2a (q2b (q0b ⟨C, L, B⟩).C (q0b ⟨C, L, B⟩).L next)) (q0b ⟨C, L, B⟩).B
         refine Sq hcx [(1005, .to 325)] [19, 20, 21, 22] [117, 50, 2] [] [(((q0b ⟨C, L, B⟩).C).length ≤ 40 ∧ ((q0b ⟨C, L, B⟩).L).length ≤ 40)] ?_ (Zs (Sz hcx [] [131] [] [] (Zx (a := (q5a (q2b ((q0b ⟨C, L, B⟩).C) ((q0b ⟨C, L, B⟩).L) next))) (b := 0) (fun h9 => ?_) fun h9 => ?_)))
         ·
          refine ap ?_ az
          omega
         ·
          have hr2 := hr.trans (Cn.k3y h117_ h9)
          exact Sz hcx [] [6, 7, 8] [131, 19, 20, 21, 22, 10, 1] [325, 610] (Zr (Fr (Fk (Fr (Fp 6 (.intss []) (Rv hcx (congrArg AV.tup (q0c (congrArg AV.intss (show [] = (Cn.q0e C L B g next).1 from (by first | (rw [hr]; done) | (rw [hr2]; done) | (rw [hT, hr2]; done) | (rw [hT, hK, hr2]; done) | (rw [hK, hr2]; done) | (rw [hr2]; simp; done)))) (q0c (congrArg AV.int (show 0 = (Cn.q0e C L B g next).2.1 from (by first | (rw [hr]; done) | (rw [hr2]; done) | (rw [hT, hr2]; done) | (rw [hT, hK, hr2]; done) | (rw [hK, hr2]; done) | (rw [hr2]; simp; done)))) (q0c (congrArg AV.int (show (q5a (q2b ((q0b ⟨C, L, B⟩).C) ((q0b ⟨C, L, B⟩).L) next)) = (Cn.q0e C L B g next).2.2 from (by first | (rw [hr]; done) | (rw [hr2]; done) | (rw [hT, hr2]; done) | (rw [hT, hK, hr2]; done) | (rw [hK, hr2]; done) | (rw [hr2]; simp; done)))) rfl)))) [] rfl))))))
         ·
          have h131_ : q5a (q2b (q0b ⟨C, L, B⟩).C (q0b ⟨C, L, B⟩).L next) = 0 := by have := h9; omega
          refine Zk (Ft (Sq hcx [] [23, 24] [131, 19, 22, 10] [610] [((q2a (q2b ((q0b ⟨C, L, B⟩).C) ((q0b ⟨C, L, B⟩).L) next)).length ≤ maxLen)] ?_ (Zs (Sz hcx [] [141] [] [] (Zx (a := ((Cn.q0q (q2a (q2b ((q0b ⟨C, L, B⟩).C) ((q0b ⟨C, L, B⟩).L) next)) ((q0b ⟨C, L, B⟩).B)).2)) (b := 0) (fun h10 => ?_) fun h10 => ?_)))))
          ·
           refine ap ?_ az
           (unfold maxLen; omega)
          ·
           have hr2 := hr.trans (Cn.x6x h117_ h131_ h10)
           exact Sz hcx [] [6, 7, 8] [141, 23, 24, 20, 21, 1] [325] (Zr (Fr (Fk (Fr (Fp 6 (.intss []) (Rv hcx (congrArg AV.tup (q0c (congrArg AV.intss (show [] = (Cn.q0e C L B g next).1 from (by first | (rw [hr]; done) | (rw [hr2]; done) | (rw [hT, hr2]; done) | (rw [hT, hK, hr2]; done) | (rw [hK, hr2]; done) | (rw [hr2]; simp; done)))) (q0c (congrArg AV.int (show 0 = (Cn.q0e C L B g next).2.1 from (by first | (rw [hr]; done) | (rw [hr2]; done) | (rw [hT, hr2]; done) | (rw [hT, hK, hr2]; done) | (rw [hK, hr2]; done) | (rw [hr2]; simp; done)))) (q0c (congrArg AV.int (show (Cn.q0q (q2a (q2b ((q0b ⟨C, L, B⟩).C) ((q0b ⟨C, L, B⟩).L) next)) ((q0b ⟨C, L, B⟩).B)).2 = (Cn.q0e C L B g next).2.2 from (by first | (rw [hr]; done) | (rw [hr2]; done) | (rw [hT, hr2]; done) | (rw [hT, hK, hr2]; done) | (rw [hK, hr2]; done) | (rw [hr2]; simp; done)))) rfl)))) [] rfl))))))
          ·
           have h141_ : (Cn.q0q (q2a (q2b (q0b ⟨C, L, B⟩).C (q0b ⟨C, L, B⟩).L next)) (q0b ⟨C, L, B⟩).B).2 = 0 := by have := h10; omega
           have hr2 := hr.trans (Cn.k6o h117_ h131_ h141_)
           refine Zk (Ft (Sq hcx [(1004, .to 325)] [6, 7, 8] [141, 23, 24, 20, 21, 1] [325] [(((Cn.q0q (q2a (q2b ((q0b ⟨C, L, B⟩).C) ((q0b ⟨C, L, B⟩).L) next)) ((q0b ⟨C, L, B⟩).B)).1).length ≤ 1000000000 ∧ (∀ l ∈ ((Cn.q0q (q2a (q2b ((q0b ⟨C, L, B⟩).C) ((q0b ⟨C, L, B⟩).L) next)) ((q0b ⟨C, L, B⟩).B)).1), l.length ≤ 1000000000) ∧ -65537 ≤ g ∧ g ≤ 65537), (((z6f (q2b ((q0b ⟨C, L, B⟩).C) ((q0b ⟨C, L, B⟩).L) next)).length + (Cn.grd g ((Cn.q0q (q2a (q2b ((q0b ⟨C, L, B⟩).C) ((q0b ⟨C, L, B⟩).L) next)) ((q0b ⟨C, L, B⟩).B)).1)).length) * 24 ≤ 140737488355328)] ?_ (Zr (Fk (Fr (Fn [(325, .frz)] [6, 7, 8] (Rv hcx (congrArg AV.tup (q0c (congrArg AV.intss (show ((z6f (q2b ((q0b ⟨C, L, B⟩).C) ((q0b ⟨C, L, B⟩).L) next)) ++ (Cn.grd g ((Cn.q0q (q2a (q2b ((q0b ⟨C, L, B⟩).C) ((q0b ⟨C, L, B⟩).L) next)) ((q0b ⟨C, L, B⟩).B)).1))) = (Cn.q0e C L B g next).1 from (by first | (rw [hr]; done) | (rw [hr2]; done) | (rw [hT, hr2]; done) | (rw [hT, hK, hr2]; done) | (rw [hK, hr2]; done) | (rw [hr2]; simp; done)))) (q0c (congrArg AV.int (show (j4g (q2b ((q0b ⟨C, L, B⟩).C) ((q0b ⟨C, L, B⟩).L) next)) = (Cn.q0e C L B g next).2.1 from (by first | (rw [hr]; done) | (rw [hr2]; done) | (rw [hT, hr2]; done) | (rw [hT, hK, hr2]; done) | (rw [hK, hr2]; done) | (rw [hr2]; simp; done)))) (q0c (congrArg AV.int (show 0 = (Cn.q0e C L B g next).2.2 from (by first | (rw [hr]; done) | (rw [hr2]; done) | (rw [hT, hr2]; done) | (rw [hT, hK, hr2]; done) | (rw [hK, hr2]; done) | (rw [hr2]; simp; done)))) rfl)))) [] rfl)))))))
           ·
            refine ap ?_ (ap ?_ az) <;>
             first | exact ⟨by omega, fun x hx => by have := hll.2 x hx; omega, by omega, by omega⟩ | (rw [Cn.q4q]; omega)
        ·
         have h117_ := h8
         refine Sz hcx [] [149] [117, 50, 10] [610] (Zu (a := (Cn.q1q ((q0b ⟨C, L, B⟩).C) ((q0b ⟨C, L, B⟩).B))) (b := 5) (fun h11 => ?_) fun h11 => ?_)
         ·
          have hr2 := hr.trans (Cn.q9h h11)
          exact Sz hcx [] [6, 7, 8] [149, 1, 2] [] (Zr (Fk (Fr (Fp 6 (.intss []) (Rv hcx (congrArg AV.tup (q0c (congrArg AV.intss (show [] = (Cn.q0e C L B g next).1 from (by first | (rw [hr]; done) | (rw [hr2]; done) | (rw [hT, hr2]; done) | (rw [hT, hK, hr2]; done) | (rw [hK, hr2]; done) | (rw [hr2]; simp; done)))) (q0c (congrArg AV.int (show next = (Cn.q0e C L B g next).2.1 from (by first | (rw [hr]; done) | (rw [hr2]; done) | (rw [hT, hr2]; done) | (rw [hT, hK, hr2]; done) | (rw [hK, hr2]; done) | (rw [hr2]; simp; done)))) (q0c (congrArg AV.int (show 0 = (Cn.q0e C L B g next).2.2 from (by first | (rw [hr]; done) | (rw [hr2]; done) | (rw [hT, hr2]; done) | (rw [hT, hK, hr2]; done) | (rw [hK, hr2]; done) | (rw [hr2]; simp; done)))) rfl)))) [] rfl)))))
         ·
          have h6 : Cn.q1q (q0b ⟨C, L, B⟩).C (q0b ⟨C, L, B⟩).B = 6 := by have hs := Cn.j0g (q0b ⟨C, L, B⟩).C (q0b ⟨C, L, B⟩).B; have := h11; omega
          have hr2 := hr.trans (Cn.q9f h6)
          refine Zk (Fb (Ft (Sq hcx [(1003, .to 355)] [6, 7, 8] [149, 1, 2] [] [(([[]] : List (List Int)).length ≤ 1000000000 ∧ (∀ l ∈ ([[]] : List (List Int)), l.length ≤ 1000000000) ∧ -65537 ≤ g ∧ g ≤ 65537)] ?_ (Zr (Fn [(355, .frz)] [6, 7, 8] (Rv hcx (congrArg AV.tup (q0c (congrArg AV.intss (show (Cn.grd g ([[]] : List (List Int))) = (Cn.q0e C L B g next).1 from (by first | (rw [hr]; done) | (rw [hr2]; done) | (rw [hT, hr2]; done) | (rw [hT, hK, hr2]; done) | (rw [hK, hr2]; done) | (rw [hr2]; simp; done)))) (q0c (congrArg AV.int (show next = (Cn.q0e C L B g next).2.1 from (by first | (rw [hr]; done) | (rw [hr2]; done) | (rw [hT, hr2]; done) | (rw [hT, hK, hr2]; done) | (rw [hK, hr2]; done) | (rw [hr2]; simp; done)))) (q0c (congrArg AV.int (show 0 = (Cn.q0e C L B g next).2.2 from (by first | (rw [hr]; done) | (rw [hr2]; done) | (rw [hT, hr2]; done) | (rw [hT, hK, hr2]; done) | (rw [hK, hr2]; done) | (rw [hr2]; simp; done)))) rfl)))) [] rfl))))))
          ·
           refine ap ?_ az
           exact ⟨by show (1 : Nat) ≤ _; decide, fun x hx => by rw [List.mem_singleton.1 hx]; first | omega | (show (1 : Nat) ≤ _; decide) | (show (0 : Nat) ≤ _; decide), by omega, by omega⟩
 ·
  cases hσ
end Go.Proofs.YtkkapbnopmmmjaaGreatDoor.En
namespace Go.Proofs.YtkkapbnopmmmjaaGreatDoor.En
open Go Go.RowKit
attribute [local irreducible] Cn.z3p Cn.q0e Cn.z2a Cn.q2i
def q6o : List (Nat × TD) := [(3, ⟨1, false, [.int .i64 0], [], none, 8, false, 1, 1⟩),
 (22, ⟨1, false, [.slice none 0 0], [], some 3, 24, false, 0, 3⟩),
 (24, ⟨3, true, [.slice none 0 0, .slice none 0 0, .int .i64 0], [(0, 22), (1, 22), (2, 3)], none, 56, false, 0, 5⟩),
 (26, ⟨1, false, [.int .i64 0], [], none, 8, false, 1, 1⟩),
 (30, ⟨1, false, [.slice none 0 0], [], some 22, 24, false, 0, 0⟩)]
theorem q9w : q7v Tryz.prog q6o := ⟨⟨by kernel_rfl, by kernel_rfl, by kernel_rfl⟩, ⟨by kernel_rfl, by kernel_rfl, by kernel_rfl⟩, ⟨by kernel_rfl, by kernel_rfl, by kernel_rfl⟩, ⟨by kernel_rfl, by kernel_rfl, by kernel_rfl⟩, ⟨by kernel_rfl, by kernel_rfl, by kernel_rfl⟩, trivial⟩
def q5g : Cx := ⟨q6o, [(12, (q2g [.agg [.ld (.ints []), .ld (.ints []), .id], .id, .id] j2o)), (9, z9x), (14, (q2g [.ld (.intss []), .ld (.intss [])] q4p)), (13, (q2g [.agg [.ld (.ints []), .ld (.ints []), .id], .id, .id] j0m))], true⟩
theorem q7u : q1g Tryz.prog q5g := q1b q9w ⟨(z0r.coe [.agg [.ld (.ints []), .ld (.ints []), .id], .id, .id] rfl), j5z, (q6c.coe [.ld (.intss []), .ld (.intss [])] rfl), (j4r.coe [.agg [.ld (.ints []), .ld (.ints []), .id], .id, .id] rfl), trivial⟩
def q6a : CtF
 | [.agg [.im (.ls (.ints C)), .im (.ls (.ints L)), .im (.val (.int .i64 B))], .im (.val (.int .i64 g)), .im (.val (.int .i64 next))], [] => some (C.length ≤ maxLen ∧ L.length ≤ maxLen ∧ Fit g ∧ Fit next, .bool true, [])
 | _, _ => none
theorem q7y : q0o Tryz.prog 4 q6a := by
 refine Sw (cx := q5g) Tryz.f4 Tryz.func4 ?_
 intro wW wO wβ G0 args os p r outs hσ hp
 have hcx := q7u
 unfold q6a at hσ
 split at hσ
 ·
  rename_i C L B g next
  cases hσ
  refine ⟨by kernel_rfl, ?_⟩
  obtain ⟨hC, hL, hg, hn⟩ := hp
  have hC9 := hC
  have hL9 := hL
  unfold maxLen at hC9 hL9
  have hob := Cn.y7x C L B g next
  have hoe := Cn.k3x (C := C) (L := L) (B := B) (g := g) (next := next)
  refine Sz hcx [(1000, .frz)] [3] [0] [] (Zs (Sq hcx [] [14] [] [] [(True)] ?_ (Zi (b := !true) (fun h0 => ?_) fun h0 => ?_)))
  ·
   refine ap ?_ az
   exact True.intro
  ·
   cases h0
  ·
   replace h0 := (k3a h0)
   refine Zk (Ft (Zs (Sq hcx [] [24] [14] [] [((!(decide ((C.length : Int) > 40))) = true → ((!(decide ((C.length : Int) > 40))) = true)), ((!(decide ((C.length : Int) > 40))) = true → ((!(decide ((C.length : Int) > 40))) = true)), ((!(decide ((C.length : Int) > 40))) = true → ((!(decide ((C.length : Int) > 40))) = true)), ((decide ((C.length : Int) > 40)) = false → (!(decide ((C.length : Int) > 40))) = true)] ?_ (Zi (b := (decide ((C.length : Int) > 40)) || (decide ((L.length : Int) > 40))) (fun h1 => ?_) fun h1 => ?_))))
   ·
    refine ap ?_ (ap ?_ (ap ?_ (ap (by exact q1v) az))) <;>
     exact id
   ·
    skip
    exact Sz hcx [] [6] [24, 3, 1, 2] [] (Zr (Fr (Ru hcx [])))
   ·
    have hF : (C.length : Int) ≤ 40 ∧ (L.length : Int) ≤ 40 := by have h9 := h1; simp only [Bool.or_eq_false_iff, decide_eq_false_iff_not] at h9; omega
    refine Zk (Ft (Sq hcx [] [7, 8, 9] [24] [] [(Fit g ∧ Fit next)] ?_ (Sq hcx [] [10, 11, 12] [3, 1, 2] [] [(C.length ≤ 40 ∧ L.length ≤ 40 ∧ Fit g ∧ Fit next)] ?_ (Sq hcx [] [6] [10, 11, 12, 7, 8, 9] [] [(((Cn.q0e C L B g next).1).length ≤ maxLen ∧ ∀ x ∈ ((Cn.q0e C L B g next).1), x.length ≤ maxLen), (decide (((Cn.q0e C L B g next).1) = ((Cn.q0e C L B g next).1)) = true → (decide (((Cn.q0e C L B g next).1) = ((Cn.q0e C L B g next).1)) = true)), (decide (((Cn.q0e C L B g next).1) = ((Cn.q0e C L B g next).1)) = true → (decide (((Cn.q0e C L B g next).1) = ((Cn.q0e C L B g next).1)) = true)), (decide (((Cn.q0e C L B g next).1) = ((Cn.q0e C L B g next).1)) = true → decide (((Cn.q0e C L B g next).1) = ((Cn.q0e C L B g next).1)) = true), (((decide (((Cn.q0e C L B g next).1) = ((Cn.q0e C L B g next).1))) && (((Cn.q0e C L B g next).2.1) == ((Cn.q0e C L B g next).2.1))) = true → (((decide (((Cn.q0e C L B g next).1) = ((Cn.q0e C L B g next).1))) && (((Cn.q0e C L B g next).2.1) == ((Cn.q0e C L B g next).2.1))) = true)), (((decide (((Cn.q0e C L B g next).1) = ((Cn.q0e C L B g next).1))) && (((Cn.q0e C L B g next).2.1) == ((Cn.q0e C L B g next).2.1))) = true → (((decide (((Cn.q0e C L B g next).1) = ((Cn.q0e C L B g next).1))) && (((Cn.q0e C L B g next).2.1) == ((Cn.q0e C L B g next).2.1))) = true)), (((decide (((Cn.q0e C L B g next).1) = ((Cn.q0e C L B g next).1))) && (((Cn.q0e C L B g next).2.1) == ((Cn.q0e C L B g next).2.1))) = true → ((decide (((Cn.q0e C L B g next).1) = ((Cn.q0e C L B g next).1))) && (((Cn.q0e C L B g next).2.1) == ((Cn.q0e C L B g next).2.1))) = true)] ?_ (Zr (Rv hcx (congrArg AV.bool (show (((decide (((Cn.q0e C L B g next).1) = ((Cn.q0e C L B g next).1))) && (((Cn.q0e C L B g next).2.1) == ((Cn.q0e C L B g next).2.1))) && (((Cn.q0e C L B g next).2.2) == ((Cn.q0e C L B g next).2.2))) = true from (by first | rfl | (simp; done) | done))) [] rfl))))))
    ·
     refine ap ?_ az
     omega
    ·
     refine ap ?_ az
     omega
    ·
     refine ap ?_ (ap ?_ (ap ?_ (ap (by exact id) (ap ?_ (ap ?_ (ap (by exact id) az)))))) <;>
      first | exact id | exact ⟨by unfold maxLen; omega, fun x hx => by have := hoe x hx; unfold maxLen; omega⟩
 ·
  cases hσ
end Go.Proofs.YtkkapbnopmmmjaaGreatDoor.En
