/- Lemmas and contracts for the row. -/
import Derived.Test.YtkkapbnopmmmjaaGreatDoorPkRowEncodeExtendsY
import Derived.Test.YtkkapbnopmmmjaaGreatDoorProg
import Derived.Test.YtkkapbnopmmmjaaGreatDoorPkRowEncodeExtendsX
import Derived.Test.YtkkapbnopmmmjaaGreatDoorPkRowEncodeExtendsAG
import Derived.Test.YtkkapbnopmmmjaaGreatDoorPkRowEncodeExtendsAD
import Derived.Test.YtkkapbnopmmmjaaGreatDoorPkRowEncodeExtendsL
import Derived.Test.YtkkapbnopmmmjaaGreatDoorPkRowEncodeExtendsZ
import Derived.Test.YtkkapbnopmmmjaaGreatDoorPkRowEncodeExtendsAA
import Derived.Test.YtkkapbnopmmmjaaGreatDoorPkRowEncodeExtendsAB
set_option linter.unusedVariables false
set_option linter.unusedSimpArgs false
set_option linter.unnecessarySimpa false
namespace Go.Proofs.YtkkapbnopmmmjaaGreatDoor.En
open Go Go.RowKit
def tyEnc : List (Nat × TD) := [(3, ⟨1, false, [.int .i64 0], [], none, 8, false, 1, 1⟩),
  (22, ⟨1, false, [.slice none 0 0], [], some 3, 24, false, 0, 3⟩),
  (24, ⟨3, true, [.slice none 0 0, .slice none 0 0, .int .i64 0], [(0, 22), (1, 22), (2, 3)], none, 56, false, 0, 5⟩),
  (26, ⟨1, false, [.int .i64 0], [], none, 8, false, 1, 1⟩),
  (30, ⟨1, false, [.slice none 0 0], [], some 22, 24, false, 0, 0⟩),
  (44, ⟨1, false, [.slice none 0 0], [], some 24, 24, false, 0, 0⟩),
  (66, ⟨1, false, [.nilFunc], [], none, 8, false, 0, 0⟩),
  (68, ⟨4, true, [.slice none 0 0, .slice none 0 0, .int .i64 0, .nilFunc], [(0, 24), (3, 66)], none, 64, false, 0, 0⟩),
  (71, ⟨1, false, [.nilFunc], [], none, 8, false, 0, 0⟩),
  (72, ⟨1, false, [.map none], [], none, 8, false, 10, 71⟩)]
theorem tyEnc_ok : AllTy Tryz.prog tyEnc := ⟨⟨by kernel_rfl, by kernel_rfl, by kernel_rfl⟩, ⟨by kernel_rfl, by kernel_rfl, by kernel_rfl⟩, ⟨by kernel_rfl, by kernel_rfl, by kernel_rfl⟩, ⟨by kernel_rfl, by kernel_rfl, by kernel_rfl⟩, ⟨by kernel_rfl, by kernel_rfl, by kernel_rfl⟩, ⟨by kernel_rfl, by kernel_rfl, by kernel_rfl⟩, ⟨by kernel_rfl, by kernel_rfl, by kernel_rfl⟩, ⟨by kernel_rfl, by kernel_rfl, by kernel_rfl⟩, ⟨by kernel_rfl, by kernel_rfl, by kernel_rfl⟩, ⟨by kernel_rfl, by kernel_rfl, by kernel_rfl⟩, trivial⟩
def cx_eEven : Cx := ⟨tyEnc, [], true⟩
theorem cx_eEven_ok : CxOk Tryz.prog cx_eEven := cx_ok tyEnc_ok trivial
def eEven_σ : CtF
  | [.agg [.im (.ls (.ints C)), .im (.ls (.ints L)), .im (.val (.int .i64 B)), .clo 38 [.pto [.val (.int .i64 g)]]]], [] => some (Cn.NormC C B, .tup [.int (Cn.evK C B), .bool (Cn.evB C)], [])
  | _, _ => none
theorem eEven_sound : Sound Tryz.prog 84 eEven_σ := by
 refine Sw (cx := cx_eEven) Tryz.f84 Tryz.func84 ?_
 intro wW wO wβ G0 args os p r outs hσ hp
 have hcx := cx_eEven_ok
 have hmx : Tryz.prog.follows .mixedOrders = true := by kernel_rfl
 unfold eEven_σ at hσ
 split at hσ
 ·
  rename_i C L B g
  cases hσ
  refine ⟨by kernel_rfl, ?_⟩
  have hn := hp
  have hl := hp.1
  have hb := Cn.nc_bd hp
  refine Sz hcx [(1000, .to 601)] [1] [0] [] (Zs (Sz hcx [] [8, 9, 10] [] [] (Zb (Lp (X := Nat) (fun x0 => x0 ≤ C.length ∧ ∀ j, j < x0 → C.getD j 0 = C.getD 0 0) (fun x0 => ([(1, .loc 601 0), (8, .ints C), (9, .int (C.length : Int)), (10, .int (x0 : Int))], [(601, .box [.ints C, .ints L, .int B, .clo 38 [.pto [.int g]]])])) (fun x0 => C.length - x0) (0) ?_ (Ex 10 (congrArg AV.int (show 0 = (0 : Int) from (by first | rfl | omega | (simp; done)))) Eb) Hb fun i hI => ?_))))
  ·
   exact ⟨Nat.zero_le _, fun j hj => by omega⟩
  ·
   try dsimp only at hI
   obtain ⟨hk, hok⟩ := hI
   refine Sz hcx [] [11] [] [] (Zs (Zj (p := ((i : Int) < (C.length : Int))) (fun h0 => ?_) fun h0 => ?_))
   ·
    refine Zk (Ft (Zs (Zb (Sq hcx [] [5] [11] [] [((0 : Int) ≤ (i : Int) ∧ (i : Int) < (C.length : Int))] ?_ (Sq hcx [] [20] [5] [] [((0 : Int) ≤ 0 ∧ 0 < (C.length : Int))] ?_ (Zi (b := (C.getD i 0) != (C.getD 0 0)) (fun h1 => ?_) fun h1 => ?_))))))
    ·
     refine ap ?_ az
     omega
    ·
     refine ap ?_ az
     omega
    ·
     replace h1 := bne_iff_ne.1 h1
     obtain ⟨e1, e2⟩ := Cn.ev_no (B := B) (by omega) h1
     exact Sz hcx [] [2, 3] [20, 1, 8, 9, 10] [601] (Zr (Fk (Fr (Fr (Fk (Fr (Rv hcx (congrArg AV.tup (consE (congrArg AV.int (show 0 = (Cn.evK C B) from (by first | exact e1.symm | exact e2.symm | (rw [e1, e2]; done)))) (consE (congrArg AV.bool (show false = (Cn.evB C) from (by first | exact e1.symm | exact e2.symm | (rw [e1, e2]; done)))) rfl))) [] rfl)))))))
    ·
     replace h1 := bneF h1
     have hq := h1
     refine Zk (Fb (Ft (Tq hcx [] [10] [20] [] [Fit ((i : Int) + 1)] ?_ (Lr (i + 1) ?_ ?_ (Ex 10 (congrArg AV.int (show ((i : Int) + 1) = ((i + 1) : Int) from (by first | rfl | omega | (simp; done)))) Eb) Hb))))
     ·
      refine ap ?_ az
      omega
     ·
      exact ⟨by omega, fun j hj => by rcases (by omega : j < i ∨ j = i) with h | rfl; exact hok j h; exact hq⟩
     ·
      show C.length - (i + 1) < C.length - i
      omega
   ·
    refine Ze (Fe (Fe (Fs (Ft (Zs (Sz hcx [] [26] [11, 8, 9, 10] [] (Zu (a := (C.length : Int)) (b := 0) (fun h2 => ?_) fun h2 => ?_)))))))
    ·
     obtain ⟨e1, e2⟩ := Cn.ev_nil (B := B) h2
     exact Sz hcx [] [2, 3] [26, 1] [601] (Zr (Fr (Rv hcx (congrArg AV.tup (consE (congrArg AV.int (show 0 = (Cn.evK C B) from (by first | exact e1.symm | exact e2.symm | (rw [e1, e2]; done)))) (consE (congrArg AV.bool (show false = (Cn.evB C) from (by first | exact e1.symm | exact e2.symm | (rw [e1, e2]; done)))) rfl))) [] rfl)))
    ·
     have h26 := h2
     obtain ⟨e1, e2⟩ := Cn.ev_yes (B := B) (by omega) hok h26
     obtain ⟨c1, c2, c3, c4⟩ := Cn.nc_0 hn h26
     refine Zk (Ft (Sd hcx hmx [0, 1, 3, 7, 0, 16, 48, 112, 240, 511, 1023, 2047, 4095] [] [2, 3] [26, 1] [601] [Fit (B - 1), ((0 : Int) ≤ 0 ∧ 0 < (C.length : Int)), (((C.getD 0 0) : Int) ≠ 0 ∧ Fit ((B - 1).tdiv (C.getD 0 0))), Fit (((B - 1).tdiv (C.getD 0 0)) + 1)] ?_ (Zr (Rv hcx (congrArg AV.tup (consE (congrArg AV.int (show (((B - 1).tdiv (C.getD 0 0)) + 1) = (Cn.evK C B) from (by first | exact e1.symm | exact e2.symm | (rw [e1, e2]; done)))) (consE (congrArg AV.bool (show true = (Cn.evB C) from (by first | exact e1.symm | exact e2.symm | (rw [e1, e2]; done)))) rfl))) [] rfl))))
     ·
      refine ap ?_ (ap ?_ (ap ?_ (ap ?_ az))) <;>
       omega
 ·
  cases hσ
def cx_eWay : Cx := ⟨tyEnc, [(84, (coeF [.agg [.ld (.ints []), .ld (.ints []), .id, .id]] eEven_σ))], true⟩
theorem cx_eWay_ok : CxOk Tryz.prog cx_eWay := cx_ok tyEnc_ok ⟨(eEven_sound.coe [.agg [.ld (.ints []), .ld (.ints []), .id, .id]] rfl), trivial⟩
def eWay_σ : CtF
  | [.agg [.im (.ls (.ints C)), .im (.ls (.ints L)), .im (.val (.int .i64 B)), .clo 38 [.pto [.val (.int .i64 g)]]]], [] => some (Cn.NormC C B, .int (Cn.wayP C B), [])
  | _, _ => none
theorem eWay_sound : Sound Tryz.prog 34 eWay_σ := by
 refine Sw (cx := cx_eWay) Tryz.f34 Tryz.func34 ?_
 intro wW wO wβ G0 args os p r outs hσ hp
 have hcx := cx_eWay_ok
 have hmx : Tryz.prog.follows .mixedOrders = true := by kernel_rfl
 unfold eWay_σ at hσ
 split at hσ
 ·
  rename_i C L B g
  cases hσ
  refine ⟨by kernel_rfl, ?_⟩
  have hn := hp
  have hl := hp.1
  have hb := Cn.nc_bd hp
  have hnk := fun h => Cn.nk_bd hn h
  have hfe := fun h => (Cn.ev_fact hn h).1
  refine Sz hcx [(1000, .to 601)] [1] [0] [] (Sq hcx [] [3, 4] [] [] [(Cn.NormC C B)] ?_ (Zs (Sz hcx [] [5] [] [] (Zb (Sq hcx [] [15] [] [] [(((C.length : Int) == 0) = true → (((C.length : Int) == 0) = true)), (((C.length : Int) == 0) = true → (((C.length : Int) == 0) = true)), (((C.length : Int) == 0) = true → (((C.length : Int) == 0) = true)), (((C.length : Int) == 0) = true → ((C.length : Int) == 0) = true)] ?_ (Zi (b := ((C.length : Int) == 0) && (B == 0)) (fun h0 => ?_) fun h0 => ?_))))))
  ·
   refine ap ?_ az
   omega
  ·
   refine ap ?_ (ap ?_ (ap ?_ (ap (by exact id) az))) <;>
    exact id
  ·
   have hr := Cn.wy_5 h0
   exact Sz hcx [] [2] [15, 5, 3, 4, 1] [601] (Zr (Fk (Fr (Rv hcx (congrArg AV.int (show 5 = (Cn.wayP C B) from (by exact hr.symm))) [] rfl))))
  ·
   have h5_ := h0
   refine Sz hcx [] [24] [15] [] (Zu (a := (C.length : Int)) (b := 0) (fun h1 => ?_) fun h1 => ?_)
   ·
    have hr := Cn.wy_6 h5_ h1
    exact Sz hcx [] [2] [24, 5, 3, 4, 1] [601] (Zr (Fk (Fr (Rv hcx (congrArg AV.int (show 6 = (Cn.wayP C B) from (by exact hr.symm))) [] rfl))))
   ·
    have h6_ := h1
    refine Sd hcx hmx [0, 1, 3, 7, 15, 31, 63, 3, 131, 387, 1023, 2047, 4095] [] [27] [24, 1] [601] [((Cn.evB C) = true → ((Cn.evB C) = true)), ((Cn.evB C) = true → ((Cn.evB C) = true)), ((Cn.evB C) = true → ((Cn.evB C) = true)), ((Cn.evB C) = true → ((0 : Int) ≤ 0 ∧ 0 < (C.length : Int))), ((Cn.evB C) = true → ((Cn.evB C) = true)), ((Cn.evB C) = true → ((Cn.evB C) = true)), ((Cn.evB C) = true → ((Cn.evB C) = true)), ((Cn.evB C) = true → ((Cn.evB C) = true)), ((Cn.evB C) = true → ((Cn.evB C) = true)), ((Cn.evB C) = true → (Cn.evB C) = true)] ?_ (Zi (b := (Cn.evB C) && ((C.getD 0 0) == B)) (fun h2 => ?_) fun h2 => ?_)
    ·
     refine ap ?_ (ap ?_ (ap ?_ (ap ?_ (ap ?_ (ap ?_ (ap ?_ (ap ?_ (ap ?_ (ap (by exact id) az))))))))) <;>
      first | omega | exact id
    ·
     have hr := Cn.wy_1 h6_ h2
     exact Sz hcx [] [2] [27, 5, 3, 4] [] (Zr (Fk (Fr (Rv hcx (congrArg AV.int (show 1 = (Cn.wayP C B) from (by exact hr.symm))) [] rfl))))
    ·
     have h1_ := h2
     refine Sq hcx [] [40] [27] [] [((Cn.evB C) = true → ((Cn.evB C) = true)), ((Cn.evB C) = true → (Cn.evB C) = true)] ?_ (Zi (b := (Cn.evB C) && (decide ((C.length : Int) ≤ 10))) (fun h3 => ?_) fun h3 => ?_)
     ·
      refine ap ?_ (ap (by exact id) az)
      exact id
     ·
      have hr := Cn.wy_2 h6_ h1_ h3
      exact Sz hcx [] [2] [40, 5, 3, 4] [] (Zr (Fk (Fr (Rv hcx (congrArg AV.int (show 2 = (Cn.wayP C B) from (by exact hr.symm))) [] rfl))))
     ·
      have h2_ := h3
      refine Sq hcx [] [46] [40, 5, 3, 4] [] [((Cn.evB C) = true → ((Cn.evB C) = true)), ((Cn.evB C) = true → ((Cn.evB C) = true)), ((Cn.evB C) = true → Fit ((C.length : Int) * (Cn.evK C B))), ((Cn.evB C) = true → ((Cn.evB C) = true)), ((Cn.evB C) = true → (Cn.evB C) = true)] ?_ (Zi (b := (Cn.evB C) && (decide (((C.length : Int) * (Cn.evK C B)) ≤ 400))) (fun h4 => ?_) fun h4 => ?_)
      ·
       refine ap ?_ (ap ?_ (ap ?_ (ap ?_ (ap (by exact id) az)))) <;>
        first | exact id | (intro h8; have h9 := hnk h8; constructor <;> omega)
      ·
       have hr := Cn.wy_3 h6_ h1_ h2_ h4
       exact Sz hcx [] [2] [46] [] (Zr (Fk (Fr (Rv hcx (congrArg AV.int (show 3 = (Cn.wayP C B) from (by exact hr.symm))) [] rfl))))
      ·
       have hr := Cn.wy_4 h6_ h1_ h2_ h4
       exact Zk (Fb (Ft (Sz hcx [] [2] [46] [] (Zr (Rv hcx (congrArg AV.int (show 4 = (Cn.wayP C B) from (by exact hr.symm))) [] rfl)))))
 ·
  cases hσ
def cx_eGrd : Cx := ⟨tyEnc, [], true⟩
theorem cx_eGrd_ok : CxOk Tryz.prog cx_eGrd := cx_ok tyEnc_ok trivial
def eGrd_σ : CtF
  | [.im (.ls (.intss c)), .pto [.val (.int .i64 g)]], [] => some (c.length ≤ 1000000000 ∧ (∀ l ∈ c, l.length ≤ 1000000000) ∧ -65537 ≤ g ∧ g ≤ 65537, .row 0, [some (.row 22 (.intss (Cn.grd g c)))])
  | _, _ => none
theorem eGrd_sound : Sound Tryz.prog 38 eGrd_σ := by
 refine Sw (cx := cx_eGrd) Tryz.f38 Tryz.func38 ?_
 intro wW wO wβ G0 args os p r outs hσ hp
 have hcx := cx_eGrd_ok
 unfold eGrd_σ at hσ
 split at hσ
 ·
  rename_i c g
  cases hσ
  refine ⟨by kernel_rfl, ?_⟩
  obtain ⟨hm1, hm2, hg1, hg2⟩ := hp
  have hb := fun i (h : i < c.length) => hm2 _ (Cn.getD_memL (d := ([] : List Int)) (k := i) h)
  refine Sz hcx [] [3] [] [] (Zs (Sz hcx [] [7, 8, 9] [0] [] (Zb (Zw 3 700 22 (.intss []) (Lp (X := Nat) (fun x0 => x0 ≤ c.length) (fun x0 => ([(1, .pto [.int g]), (3, .row 700), (7, .intss c), (8, .int (c.length : Int)), (9, .int (x0 : Int))], [(700, .row 22 (.intss (Cn.grd g (c.take x0))))])) (fun x0 => c.length - x0) (0) ?_ (Ex 9 (congrArg AV.int (show 0 = (0 : Int) from (by first | rfl | omega | (simp; done)))) Eb) Hb fun i hI => ?_)))))
  ·
   show 0 ≤ c.length
   omega
  ·
   replace hI : i ≤ c.length := hI
   have hbi := hb i
   have hgl := Cn.grd_tk g c i
   refine Sz hcx [] [10] [] [] (Zs (Zj (p := ((i : Int) < (c.length : Int))) (fun h0 => ?_) fun h0 => ?_))
   ·
    refine Zk (Ft (Zs (Zb (Sq hcx [] [5] [10] [] [((0 : Int) ≤ (i : Int) ∧ (i : Int) < (c.length : Int))] ?_ (Sq hcx [(1003, .to 216)] [6] [] [] [Fit (((c.getD i []).length : Int) + 1), ((0 : Int) ≤ 0 ∧ 0 ≤ ((((c.getD i []).length : Int) + 1) : Int) ∧ (((c.getD i []).length) + 1) * 8 ≤ 140737488355328)] ?_ (Zs (Sz hcx [] [18] [] [] (Zx (a := g) (b := 0) (fun h1 => ?_) fun h1 => ?_))))))))
    ·
     refine ap ?_ az
     omega
    ·
     refine ap ?_ (ap ?_ az) <;>
      omega
    ·
     have h18 := h1
     refine Tq hcx [(1004, .to 216)] [6] [18] [216] [Fit (-g), ((([] : List Int).length + [(-g)].length) * 8 ≤ 140737488355328)] ?_ (Ft (Tq hcx [(1005, .to 700)] [3] [6, 5] [216, 700] [((([] ++ [(-g)]).length + (c.getD i []).length) * 8 ≤ 140737488355328), (((Cn.grd g (c.take i)).length + [(([] ++ [(-g)]) ++ (c.getD i []))].length) * 24 ≤ 140737488355328)] ?_ (Fb (Ft (Tq hcx [] [9] [] [] [Fit ((i : Int) + 1)] ?_ (Lr (i + 1) ?_ ?_ (Ex 9 (congrArg AV.int (show ((i : Int) + 1) = ((i + 1) : Int) from (by first | rfl | omega | (simp; done)))) Eb) (Hx 700 (congrArg (fun x => AObj.row 22 (.intss x)) (show ((Cn.grd g (c.take i)) ++ [(([] ++ [(-g)]) ++ (c.getD i []))]) = (Cn.grd g (c.take (i + 1))) from (by first | exact Cn.gn_1 (by omega) h18 | exact Cn.gn_0 (by omega) h18))) Hb)))))))
     ·
      refine ap ?_ (ap ?_ az) <;>
       first | omega | (simp only [List.length_cons, List.length_nil, List.length_append, List.length_map, List.length_set, List.length_replicate]; omega)
     ·
      refine ap ?_ (ap ?_ az) <;>
       (simp only [List.length_cons, List.length_nil, List.length_append, List.length_map, List.length_set, List.length_replicate]; omega)
     ·
      refine ap ?_ az
      omega
     ·
      show (i + 1) ≤ c.length
      omega
     ·
      show c.length - (i + 1) < c.length - i
      omega
    ·
     have h18 := h1
     refine Zk (Ft (Tq hcx [(1005, .to 700)] [3] [18, 6, 5] [216, 700] [((([] : List Int).length + (c.getD i []).length) * 8 ≤ 140737488355328), (((Cn.grd g (c.take i)).length + [([] ++ (c.getD i []))].length) * 24 ≤ 140737488355328)] ?_ (Fb (Ft (Tq hcx [] [9] [] [] [Fit ((i : Int) + 1)] ?_ (Lr (i + 1) ?_ ?_ (Ex 9 (congrArg AV.int (show ((i : Int) + 1) = ((i + 1) : Int) from (by first | rfl | omega | (simp; done)))) Eb) (Hx 700 (congrArg (fun x => AObj.row 22 (.intss x)) (show ((Cn.grd g (c.take i)) ++ [([] ++ (c.getD i []))]) = (Cn.grd g (c.take (i + 1))) from (by first | exact Cn.gn_1 (by omega) h18 | exact Cn.gn_0 (by omega) h18))) Hb)))))))
     ·
      refine ap ?_ (ap ?_ az) <;>
       (simp only [List.length_cons, List.length_nil, List.length_append, List.length_map, List.length_set, List.length_replicate]; omega)
     ·
      refine ap ?_ az
      omega
     ·
      show (i + 1) ≤ c.length
      omega
     ·
      show c.length - (i + 1) < c.length - i
      omega
   ·
    exact Ze (Fe (Fe (Fs (Ft (Sz hcx [] [3] [10, 1, 7, 8, 9] [] (Zr (Fn [(700, .to 0)] [3] (Rv hcx rfl [true] (consO (congrArg some (congrArg (fun x => AObj.row 22 (.intss x)) (show (Cn.grd g (c.take i)) = (Cn.grd g c) from (by (rw [show i = c.length by omega, List.take_length]))))) rfl)))))))))
 ·
  cases hσ
def cx_eClause : Cx := ⟨tyEnc, [(38, (coeF [.ld (.intss []), .id] eGrd_σ))], true⟩
theorem cx_eClause_ok : CxOk Tryz.prog cx_eClause := cx_ok tyEnc_ok ⟨(eGrd_sound.coe [.ld (.intss []), .id] rfl), trivial⟩
def eClause_σ : CtF
  | [.agg [.im (.ls (.ints C)), .im (.ls (.ints L)), .im (.val (.int .i64 B)), .clo 38 [.pto [.val (.int .i64 g)]]], .im (.val (.int .i64 next))], [] => some (L.length ≤ 1000000 ∧ -65537 ≤ g ∧ g ≤ 65537, .tup [.row 0, .int next, .int 0], [some (.row 22 (.intss (Cn.grd g [L])))])
  | _, _ => none
theorem eClause_sound : Sound Tryz.prog 88 eClause_σ := by
 refine Sw (cx := cx_eClause) Tryz.f88 Tryz.func88 ?_
 intro wW wO wβ G0 args os p r outs hσ hp
 have hcx := cx_eClause_ok
 unfold eClause_σ at hσ
 split at hσ
 ·
  rename_i C L B g next
  cases hσ
  refine ⟨by kernel_rfl, ?_⟩
  obtain ⟨hm1, hg1, hg2⟩ := hp
  refine Sz hcx [(1000, .to 602)] [2] [0] [] (Sq hcx [(1006, .to 213)] [4, 5, 6] [2, 1] [602] [([L].length ≤ 1000000000 ∧ (∀ l ∈ [L], l.length ≤ 1000000000) ∧ -65537 ≤ g ∧ g ≤ 65537)] ?_ (Zr (Fn [(213, .to 0)] [4, 5, 6] (Ru hcx [true]))))
  ·
   refine ap ?_ az
   exact ⟨by show (1 : Nat) ≤ 1000000000; decide, fun x hx => by rw [List.mem_singleton.1 hx]; first | omega | exact Nat.zero_le _, hg1, hg2⟩
 ·
  cases hσ
def cx_eNothing : Cx := ⟨tyEnc, [], true⟩
theorem cx_eNothing_ok : CxOk Tryz.prog cx_eNothing := cx_ok tyEnc_ok trivial
def eNothing_σ : CtF
  | [.agg [.im (.ls (.ints C)), .im (.ls (.ints L)), .im (.val (.int .i64 B)), .clo 38 [.pto [.val (.int .i64 g)]]], .im (.val (.int .i64 next))], [] => some (True, .tup [.im (.val (.slice none 0 0)), .int next, .int 0], [])
  | _, _ => none
theorem eNothing_sound : Sound Tryz.prog 92 eNothing_σ := by
 refine Sw (cx := cx_eNothing) Tryz.f92 Tryz.func92 ?_
 intro wW wO wβ G0 args os p r outs hσ hp
 have hcx := cx_eNothing_ok
 unfold eNothing_σ at hσ
 split at hσ
 ·
  rename_i C L B g next
  cases hσ
  refine ⟨by kernel_rfl, ?_⟩
  exact Sz hcx [] [] [0] [] (Sz hcx [] [4, 5, 6] [1] [] (Zr (Ru hcx [])))
 ·
  cases hσ
def cx_eNever : Cx := ⟨tyEnc, [(38, (coeF [.ld (.intss []), .id] eGrd_σ))], true⟩
theorem cx_eNever_ok : CxOk Tryz.prog cx_eNever := cx_ok tyEnc_ok ⟨(eGrd_sound.coe [.ld (.intss []), .id] rfl), trivial⟩
def eNever_σ : CtF
  | [.agg [.im (.ls (.ints C)), .im (.ls (.ints L)), .im (.val (.int .i64 B)), .clo 38 [.pto [.val (.int .i64 g)]]], .im (.val (.int .i64 next))], [] => some (-65537 ≤ g ∧ g ≤ 65537, .tup [.row 0, .int next, .int 0], [some (.row 22 (.intss (Cn.grd g [[]])))])
  | _, _ => none
theorem eNever_sound : Sound Tryz.prog 93 eNever_σ := by
 refine Sw (cx := cx_eNever) Tryz.f93 Tryz.func93 ?_
 intro wW wO wβ G0 args os p r outs hσ hp
 have hcx := cx_eNever_ok
 unfold eNever_σ at hσ
 split at hσ
 ·
  rename_i C L B g next
  cases hσ
  refine ⟨by kernel_rfl, ?_⟩
  obtain ⟨hg1, hg2⟩ := hp
  refine Sz hcx [(1000, .to 602)] [2] [0] [] (Sq hcx [(1004, .to 211)] [4, 5, 6] [2, 1] [602] [(([[]] : List (List Int)).length ≤ 1000000000 ∧ (∀ l ∈ ([[]] : List (List Int)), l.length ≤ 1000000000) ∧ -65537 ≤ g ∧ g ≤ 65537)] ?_ (Zr (Fn [(211, .to 0)] [4, 5, 6] (Rv hcx rfl [true] (consO (congrArg some (congrArg (fun x => AObj.row 22 (.intss x)) (show (Cn.grd g ([[]] : List (List Int))) = (Cn.grd g [[]]) from (by first | rfl | (simp; done))))) rfl)))))
  ·
   refine ap ?_ az
   exact ⟨by show (1 : Nat) ≤ 1000000000; decide, fun x hx => by rw [List.mem_singleton.1 hx]; first | omega | exact Nat.zero_le _, hg1, hg2⟩
 ·
  cases hσ
def cx_eTotal : Cx := ⟨tyEnc, [(84, (coeF [.agg [.ld (.ints []), .ld (.ints []), .id, .id]] eEven_σ)), (38, (coeF [.ld (.intss []), .id] eGrd_σ)), (129, (coeF [.ld (.ints []), .id, .id] tTot_σ))], true⟩
theorem cx_eTotal_ok : CxOk Tryz.prog cx_eTotal := cx_ok tyEnc_ok ⟨(eEven_sound.coe [.agg [.ld (.ints []), .ld (.ints []), .id, .id]] rfl), (eGrd_sound.coe [.ld (.intss []), .id] rfl), (tTot_sound.coe [.ld (.ints []), .id, .id] rfl), trivial⟩
def eTotal_σ : CtF
  | [.agg [.im (.ls (.ints C)), .im (.ls (.ints L)), .im (.val (.int .i64 B)), .clo 38 [.pto [.val (.int .i64 g)]]], .im (.val (.int .i64 next))], [] => some (Cn.NormC C B ∧ Cn.evB C = true ∧ L.length = C.length ∧ (∀ x ∈ L, x ≠ 0 ∧ -65536 ≤ x ∧ x ≤ 65536) ∧ Fit next ∧ -65537 ≤ g ∧ g ≤ 65537, .tup [.intss ((Cn.encT C L B g next).1), .int ((Cn.encT C L B g next).2.1), .int ((Cn.encT C L B g next).2.2)], [])
  | _, _ => none
theorem eTotal_sound : Sound Tryz.prog 89 eTotal_σ := by
 refine Sw (cx := cx_eTotal) Tryz.f89 Tryz.func89 ?_
 intro wW wO wβ G0 args os p r outs hσ hp
 have hcx := cx_eTotal_ok
 have hmx : Tryz.prog.follows .mixedOrders = true := by kernel_rfl
 unfold eTotal_σ at hσ
 split at hσ
 ·
  rename_i C L B g next
  cases hσ
  refine ⟨by kernel_rfl, ?_⟩
  obtain ⟨hn, he, hLC, hx1, hf, hg1, hg2⟩ := hp
  have hl := hn.1
  have hx2 : ∀ x ∈ L, -65537 ≤ x ∧ x ≤ 65537 := fun x hx => by have := hx1 x hx; omega
  obtain ⟨f1, f2, f3, f4, f5, f6, f7⟩ := Cn.ev_fact hn he
  have htl := Cn.tr_len (next := next) (k := Cn.evK C B) hx2
  refine Sz hcx [(1000, .to 602)] [2] [0] [] (Sq hcx [] [7] [] [] [(Cn.NormC C B)] ?_ (Sq hcx [(1005, .to 224)] [9, 10, 11, 12] [1] [] [(L.length ≤ maxLen ∧ (∀ x ∈ L, -65537 ≤ x ∧ x ≤ 65537) ∧ Fit (Cn.evK C B) ∧ Fit next)] ?_ (Zs (Sz hcx [] [30] [] [] (Zx (a := ((Cn.totR (Cn.evK C B) L next).2.2.2)) (b := 0) (fun h0 => ?_) fun h0 => ?_)))))
  ·
   refine ap ?_ az
   omega
  ·
   refine ap ?_ az
   exact ⟨by unfold maxLen; omega, hx2, by unfold Fit; omega, hf⟩
  ·
   have hr := Cn.et_err (g := g) h0
   exact Sz hcx [] [4, 5, 6] [30, 9, 10, 11, 12, 7, 2] [224, 602] (Zr (Fr (Fp 4 (.intss []) (Rv hcx (congrArg AV.tup (consE (congrArg AV.intss (show [] = (Cn.encT C L B g next).1 from (by first | (rw [hr]; done) | (rw [hr]; exact h0)))) (consE (congrArg AV.int (show 0 = (Cn.encT C L B g next).2.1 from (by first | (rw [hr]; done) | (rw [hr]; exact h0)))) (consE (congrArg AV.int (show (Cn.totR (Cn.evK C B) L next).2.2.2 = (Cn.encT C L B g next).2.2 from (by first | (rw [hr]; done) | (rw [hr]; exact h0)))) rfl)))) [] rfl))))
  ·
   have h0 : (Cn.totR (Cn.evK C B) L next).2.2.2 = 0 := by have := h0; omega
   have hr := Cn.et_ok (g := g) h0
   have hok := Cn.tr_ok f4 (by omega) h0
   have hol : ((Cn.totR (Cn.evK C B) L next).1.length : Int) = Cn.evK C B := by rw [hok.2]; exact Cn.tot_olen f4 (by omega) hok.1
   refine Zk (Ft (Sd hcx hmx [0, 0, 2, 0, 0, 16, 0, 120, 248, 510, 1023, 0, 0, 2047, 12287, 32767] [(1010, .to 224)] [4, 5, 6] [30, 9, 10, 11, 12, 7, 2] [224, 602] [Fit ((Cn.evK C B) - 1), ((0 : Int) ≤ ((Cn.evK C B) - 1) ∧ ((Cn.evK C B) - 1) ≤ (Cn.evK C B) ∧ (Cn.evK C B) ≤ (((Cn.totR (Cn.evK C B) L next).1).length : Int)), ([((((Cn.totR (Cn.evK C B) L next).1).take ((Cn.evK C B).toNat)).drop (((Cn.evK C B) - 1).toNat))].length ≤ 1000000000 ∧ (∀ l ∈ [((((Cn.totR (Cn.evK C B) L next).1).take ((Cn.evK C B).toNat)).drop (((Cn.evK C B) - 1).toNat))], l.length ≤ 1000000000) ∧ -65537 ≤ g ∧ g ≤ 65537), ((((Cn.totR (Cn.evK C B) L next).2.1).length + (Cn.grd g [((((Cn.totR (Cn.evK C B) L next).1).take ((Cn.evK C B).toNat)).drop (((Cn.evK C B) - 1).toNat))]).length) * 24 ≤ 140737488355328)] ?_ (Zr (Fn [(224, .frz)] [4, 5, 6] (Rv hcx (congrArg AV.tup (consE (congrArg AV.intss (show (((Cn.totR (Cn.evK C B) L next).2.1) ++ (Cn.grd g [((((Cn.totR (Cn.evK C B) L next).1).take ((Cn.evK C B).toNat)).drop (((Cn.evK C B) - 1).toNat))])) = (Cn.encT C L B g next).1 from (by first | (rw [hr]; done) | (rw [hr]; exact h0)))) (consE (congrArg AV.int (show (Cn.totR (Cn.evK C B) L next).2.2.1 = (Cn.encT C L B g next).2.1 from (by first | (rw [hr]; done) | (rw [hr]; exact h0)))) (consE (congrArg AV.int (show (Cn.totR (Cn.evK C B) L next).2.2.2 = (Cn.encT C L B g next).2.2 from (by first | (rw [hr]; done) | (rw [hr]; exact h0)))) rfl)))) [] rfl)))))
   ·
    refine ap ?_ (ap ?_ (ap ?_ (ap ?_ az))) <;>
     first | omega | exact ⟨by show (1 : Nat) ≤ 1000000000; decide, fun x hx => by rw [List.mem_singleton.1 hx, List.length_drop, List.length_take]; omega, hg1, hg2⟩ | (rw [Cn.grd_len]; simp only [List.length_cons, List.length_nil]; omega)
 ·
  cases hσ
def cx_eCount : Cx := ⟨tyEnc, [(84, (coeF [.agg [.ld (.ints []), .ld (.ints []), .id, .id]] eEven_σ)), (38, (coeF [.ld (.intss []), .id] eGrd_σ)), (130, (coeF [.ld (.ints []), .id, .id] kLeast_σ))], true⟩
theorem cx_eCount_ok : CxOk Tryz.prog cx_eCount := cx_ok tyEnc_ok ⟨(eEven_sound.coe [.agg [.ld (.ints []), .ld (.ints []), .id, .id]] rfl), (eGrd_sound.coe [.ld (.intss []), .id] rfl), (kLeast_sound.coe [.ld (.ints []), .id, .id] rfl), trivial⟩
def eCount_σ : CtF
  | [.agg [.im (.ls (.ints C)), .im (.ls (.ints L)), .im (.val (.int .i64 B)), .clo 38 [.pto [.val (.int .i64 g)]]], .im (.val (.int .i64 next))], [] => some (Cn.NormC C B ∧ Cn.evB C = true ∧ L.length = C.length ∧ (∀ x ∈ L, x ≠ 0 ∧ -65536 ≤ x ∧ x ≤ 65536) ∧ Fit next ∧ -65537 ≤ g ∧ g ≤ 65537, .tup [.intss ((Cn.encN C L B g next).1), .int ((Cn.encN C L B g next).2.1), .int ((Cn.encN C L B g next).2.2)], [])
  | _, _ => none
theorem eCount_sound : Sound Tryz.prog 90 eCount_σ := by
 refine Sw (cx := cx_eCount) Tryz.f90 Tryz.func90 ?_
 intro wW wO wβ G0 args os p r outs hσ hp
 have hcx := cx_eCount_ok
 unfold eCount_σ at hσ
 split at hσ
 ·
  rename_i C L B g next
  cases hσ
  refine ⟨by kernel_rfl, ?_⟩
  obtain ⟨hn, he, hLC, hx1, hf, hg1, hg2⟩ := hp
  have hl := hn.1
  have hx3 : ∀ x ∈ L, -70000 ≤ x ∧ x ≤ 70000 := fun x hx => by have := hx1 x hx; omega
  obtain ⟨f1, f2, f3, f4, f5, f6, f7⟩ := Cn.ev_fact hn he
  have hlr := Cn.lr_len (L := L) (next := next) (k := Cn.evK C B)
  refine Sz hcx [(1000, .to 602)] [2] [0] [] (Sq hcx [] [7] [] [] [(Cn.NormC C B)] ?_ (Sq hcx [] [9, 10, 11] [7, 1] [] [(L.length ≤ maxLen ∧ (∀ x ∈ L, -70000 ≤ x ∧ x ≤ 70000) ∧ Fit (Cn.evK C B) ∧ Fit next)] ?_ (Zs (Sz hcx [] [28] [] [] (Zx (a := ((Cn.leastR L (Cn.evK C B) next).2.2)) (b := 0) (fun h0 => ?_) fun h0 => ?_)))))
  ·
   refine ap ?_ az
   omega
  ·
   refine ap ?_ az
   exact ⟨by unfold maxLen; omega, hx3, by unfold Fit; omega, hf⟩
  ·
   have hr := Cn.en_err (g := g) h0
   exact Sz hcx [] [4, 5, 6] [28, 9, 10, 11, 2] [602] (Zr (Fr (Fp 4 (.intss []) (Rv hcx (congrArg AV.tup (consE (congrArg AV.intss (show [] = (Cn.encN C L B g next).1 from (by first | (rw [hr]; done) | (rw [hr]; exact h0)))) (consE (congrArg AV.int (show 0 = (Cn.encN C L B g next).2.1 from (by first | (rw [hr]; done) | (rw [hr]; exact h0)))) (consE (congrArg AV.int (show (Cn.leastR L (Cn.evK C B) next).2.2 = (Cn.encN C L B g next).2.2 from (by first | (rw [hr]; done) | (rw [hr]; exact h0)))) rfl)))) [] rfl))))
  ·
   have h0 : (Cn.leastR L (Cn.evK C B) next).2.2 = 0 := by have := h0; omega
   have hr := Cn.en_ok (g := g) h0
   refine Zk (Ft (Sq hcx [(1003, .to 233)] [4, 5, 6] [28, 9, 10, 11, 2] [602] [(((Cn.leastR L (Cn.evK C B) next).1).length ≤ 1000000000 ∧ (∀ l ∈ ((Cn.leastR L (Cn.evK C B) next).1), l.length ≤ 1000000000) ∧ -65537 ≤ g ∧ g ≤ 65537)] ?_ (Zr (Fn [(233, .frz)] [4, 5, 6] (Rv hcx (congrArg AV.tup (consE (congrArg AV.intss (show (Cn.grd g ((Cn.leastR L (Cn.evK C B) next).1)) = (Cn.encN C L B g next).1 from (by first | (rw [hr]; done) | (rw [hr]; exact h0)))) (consE (congrArg AV.int (show (Cn.leastR L (Cn.evK C B) next).2.1 = (Cn.encN C L B g next).2.1 from (by first | (rw [hr]; done) | (rw [hr]; exact h0)))) (consE (congrArg AV.int (show (Cn.leastR L (Cn.evK C B) next).2.2 = (Cn.encN C L B g next).2.2 from (by first | (rw [hr]; done) | (rw [hr]; exact h0)))) rfl)))) [] rfl)))))
   ·
    refine ap ?_ az
    exact ⟨by omega, fun x hx => by have := hlr.2 x hx; omega, hg1, hg2⟩
 ·
  cases hσ
def cx_eAdd : Cx := ⟨tyEnc, [(38, (coeF [.ld (.intss []), .id] eGrd_σ)), (131, (coeF [.ld (.ints []), .ld (.ints []), .id] aSum_σ)), (132, (coeF [.ld (.ints []), .id] aLeast_σ.up))], true⟩
theorem cx_eAdd_ok : CxOk Tryz.prog cx_eAdd := cx_ok tyEnc_ok ⟨(eGrd_sound.coe [.ld (.intss []), .id] rfl), (aSum_sound.coe [.ld (.ints []), .ld (.ints []), .id] rfl), (aLeast_sound.up.coe [.ld (.ints []), .id] rfl), trivial⟩
def eAdd_σ : CtF
  | [.agg [.im (.ls (.ints C)), .im (.ls (.ints L)), .im (.val (.int .i64 B)), .clo 38 [.pto [.val (.int .i64 g)]]], .im (.val (.int .i64 next))], [] => some (C.length ≤ 4096 ∧ L.length = C.length ∧ -65537 ≤ g ∧ g ≤ 65537, .tup [.intss ((Cn.encA C L B g next).1), .int ((Cn.encA C L B g next).2.1), .int ((Cn.encA C L B g next).2.2)], [])
  | _, _ => none
theorem eAdd_sound : Sound Tryz.prog 91 eAdd_σ := by
 refine Sw (cx := cx_eAdd) Tryz.f91 Tryz.func91 ?_
 intro wW wO wβ G0 args os p r outs hσ hp
 have hcx := cx_eAdd_ok
 unfold eAdd_σ at hσ
 split at hσ
 ·
  rename_i C L B g next
  cases hσ
  refine ⟨by kernel_rfl, ?_⟩
  obtain ⟨hl, hLC, hg1, hg2⟩ := hp
  have hsl := Cn.sumQ_len C L next
  have hll := Cn.leastQ_len (Cn.sumQ C L next).1 B
  refine Sz hcx [(1000, .to 602)] [2] [0] [] (Sq hcx [(1007, .to 220)] [7, 8, 9, 10] [1] [] [(C.length ≤ 1000000000 ∧ L.length ≤ 1000000000)] ?_ (Zs (Sz hcx [] [26] [] [] (Zx (a := ((Cn.sumQ C L next).2.2.2)) (b := 0) (fun h0 => ?_) fun h0 => ?_))))
  ·
   refine ap ?_ az
   omega
  ·
   have hr := Cn.ea_err (B := B) (g := g) h0
   exact Sz hcx [] [4, 5, 6] [26, 7, 8, 9, 10, 2] [220, 602] (Zr (Fr (Fp 4 (.intss []) (Rv hcx (congrArg AV.tup (consE (congrArg AV.intss (show [] = (Cn.encA C L B g next).1 from (by first | (rw [hr]; done) | (rw [hr]; exact h1_)))) (consE (congrArg AV.int (show 0 = (Cn.encA C L B g next).2.1 from (by first | (rw [hr]; done) | (rw [hr]; exact h1_)))) (consE (congrArg AV.int (show (Cn.sumQ C L next).2.2.2 = (Cn.encA C L B g next).2.2 from (by first | (rw [hr]; done) | (rw [hr]; exact h1_)))) rfl)))) [] rfl))))
  ·
   have h0 : (Cn.sumQ C L next).2.2.2 = 0 := by have := h0; omega
   refine Zk (Ft (Sq hcx [] [10, 11] [26, 7] [] [(((Cn.sumQ C L next).1).length ≤ 1000000000)] ?_ (Zs (Sz hcx [] [37] [] [] (Zx (a := ((Cn.leastQ ((Cn.sumQ C L next).1) B).2)) (b := 0) (fun h1 => ?_) fun h1 => ?_)))))
   ·
    refine ap ?_ az
    omega
   ·
    have hr := Cn.ea_err2 (g := g) h0 h1
    exact Sz hcx [] [4, 5, 6] [37, 10, 11, 8, 9, 2] [220, 602] (Zr (Fr (Fp 4 (.intss []) (Rv hcx (congrArg AV.tup (consE (congrArg AV.intss (show [] = (Cn.encA C L B g next).1 from (by first | (rw [hr]; done) | (rw [hr]; exact h1_)))) (consE (congrArg AV.int (show 0 = (Cn.encA C L B g next).2.1 from (by first | (rw [hr]; done) | (rw [hr]; exact h1_)))) (consE (congrArg AV.int (show (Cn.leastQ ((Cn.sumQ C L next).1) B).2 = (Cn.encA C L B g next).2.2 from (by first | (rw [hr]; done) | (rw [hr]; exact h1_)))) rfl)))) [] rfl))))
   ·
    have h1_ : (Cn.leastQ (Cn.sumQ C L next).1 B).2 = 0 := by have := h1; omega
    have hr := Cn.ea_ok (g := g) h0 h1_
    refine Zk (Ft (Sq hcx [(1005, .to 220)] [4, 5, 6] [37, 10, 11, 8, 9, 2] [220, 602] [(((Cn.leastQ ((Cn.sumQ C L next).1) B).1).length ≤ 1000000000 ∧ (∀ l ∈ ((Cn.leastQ ((Cn.sumQ C L next).1) B).1), l.length ≤ 1000000000) ∧ -65537 ≤ g ∧ g ≤ 65537), ((((Cn.sumQ C L next).2.1).length + (Cn.grd g ((Cn.leastQ ((Cn.sumQ C L next).1) B).1)).length) * 24 ≤ 140737488355328)] ?_ (Zr (Fn [(220, .frz)] [4, 5, 6] (Rv hcx (congrArg AV.tup (consE (congrArg AV.intss (show (((Cn.sumQ C L next).2.1) ++ (Cn.grd g ((Cn.leastQ ((Cn.sumQ C L next).1) B).1))) = (Cn.encA C L B g next).1 from (by first | (rw [hr]; done) | (rw [hr]; exact h1_)))) (consE (congrArg AV.int (show (Cn.sumQ C L next).2.2.1 = (Cn.encA C L B g next).2.1 from (by first | (rw [hr]; done) | (rw [hr]; exact h1_)))) (consE (congrArg AV.int (show (Cn.leastQ ((Cn.sumQ C L next).1) B).2 = (Cn.encA C L B g next).2.2 from (by first | (rw [hr]; done) | (rw [hr]; exact h1_)))) rfl)))) [] rfl)))))
    ·
     refine ap ?_ (ap ?_ az) <;>
      first | exact ⟨by omega, fun x hx => by have := hll.2 x hx; omega, hg1, hg2⟩ | (rw [Cn.grd_len]; omega)
 ·
  cases hσ
def cx_eWays : Cx := ⟨tyEnc, [], true⟩
theorem cx_eWays_ok : CxOk Tryz.prog cx_eWays := cx_ok tyEnc_ok trivial
def eWays_σ : CtF
  | [], [] => some (True, .row 0, [some (.mfun [1, 2, 3, 4, 5, 6] [.clo 88 [], .clo 89 [], .clo 90 [], .clo 91 [], .clo 92 [], .clo 93 []])])
  | _, _ => none
theorem eWays_sound : Sound Tryz.prog 39 eWays_σ := by
 refine Sw (cx := cx_eWays) Tryz.f39 Tryz.func39 ?_
 intro wW wO wβ G0 args os p r outs hσ hp
 have hcx := cx_eWays_ok
 unfold eWays_σ at hσ
 split at hσ
 ·
  cases hσ
  refine ⟨by kernel_rfl, ?_⟩
  exact Sz hcx [] [] [] [] (Sz hcx [(1000, .to 201)] [0] [] [] (Zr (Fn [(201, .to 0)] [0] (Ru hcx [true]))))
 ·
  cases hσ
def cx_eEvenZ : Cx := ⟨tyEnc, [], true⟩
theorem cx_eEvenZ_ok : CxOk Tryz.prog cx_eEvenZ := cx_ok tyEnc_ok trivial
def eEvenZ_σ : CtF
  | [.agg [.im (.ls (.ints C)), .im (.ls (.ints L)), .im (.val (.int .i64 B)), .im (.val .nilFunc)]], [] => some (Cn.NormC C B, .tup [.int (Cn.evK C B), .bool (Cn.evB C)], [])
  | _, _ => none
theorem eEvenZ_sound : Sound Tryz.prog 84 eEvenZ_σ := by
 refine Sw (cx := cx_eEvenZ) Tryz.f84 Tryz.func84 ?_
 intro wW wO wβ G0 args os p r outs hσ hp
 have hcx := cx_eEvenZ_ok
 have hmx : Tryz.prog.follows .mixedOrders = true := by kernel_rfl
 unfold eEvenZ_σ at hσ
 split at hσ
 ·
  rename_i C L B
  cases hσ
  refine ⟨by kernel_rfl, ?_⟩
  have hn := hp
  have hl := hp.1
  have hb := Cn.nc_bd hp
  refine Sz hcx [(1000, .frz)] [1] [0] [] (Zs (Sz hcx [] [8, 9, 10] [] [] (Zb (Lp (X := Nat) (fun x0 => x0 ≤ C.length ∧ ∀ j, j < x0 → C.getD j 0 = C.getD 0 0) (fun x0 => ([(1, .pto [.ls (.ints C), .ls (.ints L), .int B, .val .nilFunc]), (8, .ints C), (9, .int (C.length : Int)), (10, .int (x0 : Int))], [])) (fun x0 => C.length - x0) (0) ?_ (Ex 10 (congrArg AV.int (show 0 = (0 : Int) from (by first | rfl | omega | (simp; done)))) Eb) Hb fun i hI => ?_))))
  ·
   exact ⟨Nat.zero_le _, fun j hj => by omega⟩
  ·
   try dsimp only at hI
   obtain ⟨hk, hok⟩ := hI
   refine Sz hcx [] [11] [] [] (Zs (Zj (p := ((i : Int) < (C.length : Int))) (fun h0 => ?_) fun h0 => ?_))
   ·
    refine Zk (Ft (Zs (Zb (Sq hcx [] [5] [11] [] [((0 : Int) ≤ (i : Int) ∧ (i : Int) < (C.length : Int))] ?_ (Sq hcx [] [20] [5] [] [((0 : Int) ≤ 0 ∧ 0 < (C.length : Int))] ?_ (Zi (b := (C.getD i 0) != (C.getD 0 0)) (fun h1 => ?_) fun h1 => ?_))))))
    ·
     refine ap ?_ az
     omega
    ·
     refine ap ?_ az
     omega
    ·
     replace h1 := bne_iff_ne.1 h1
     obtain ⟨e1, e2⟩ := Cn.ev_no (B := B) (by omega) h1
     exact Sz hcx [] [2, 3] [20, 1, 8, 9, 10] [] (Zr (Fk (Fr (Fr (Fk (Fr (Rv hcx (congrArg AV.tup (consE (congrArg AV.int (show 0 = (Cn.evK C B) from (by first | exact e1.symm | exact e2.symm | (rw [e1, e2]; done)))) (consE (congrArg AV.bool (show false = (Cn.evB C) from (by first | exact e1.symm | exact e2.symm | (rw [e1, e2]; done)))) rfl))) [] rfl)))))))
    ·
     replace h1 := bneF h1
     have hq := h1
     refine Zk (Fb (Ft (Tq hcx [] [10] [20] [] [Fit ((i : Int) + 1)] ?_ (Lr (i + 1) ?_ ?_ (Ex 10 (congrArg AV.int (show ((i : Int) + 1) = ((i + 1) : Int) from (by first | rfl | omega | (simp; done)))) Eb) Hb))))
     ·
      refine ap ?_ az
      omega
     ·
      exact ⟨by omega, fun j hj => by rcases (by omega : j < i ∨ j = i) with h | rfl; exact hok j h; exact hq⟩
     ·
      show C.length - (i + 1) < C.length - i
      omega
   ·
    refine Ze (Fe (Fe (Fs (Ft (Zs (Sz hcx [] [26] [11, 8, 9, 10] [] (Zu (a := (C.length : Int)) (b := 0) (fun h2 => ?_) fun h2 => ?_)))))))
    ·
     obtain ⟨e1, e2⟩ := Cn.ev_nil (B := B) h2
     exact Sz hcx [] [2, 3] [26, 1] [] (Zr (Fr (Rv hcx (congrArg AV.tup (consE (congrArg AV.int (show 0 = (Cn.evK C B) from (by first | exact e1.symm | exact e2.symm | (rw [e1, e2]; done)))) (consE (congrArg AV.bool (show false = (Cn.evB C) from (by first | exact e1.symm | exact e2.symm | (rw [e1, e2]; done)))) rfl))) [] rfl)))
    ·
     have h26 := h2
     obtain ⟨e1, e2⟩ := Cn.ev_yes (B := B) (by omega) hok h26
     obtain ⟨c1, c2, c3, c4⟩ := Cn.nc_0 hn h26
     refine Zk (Ft (Sd hcx hmx [0, 1, 3, 7, 0, 16, 48, 112, 240, 511, 1023, 2047, 4095] [] [2, 3] [26, 1] [] [Fit (B - 1), ((0 : Int) ≤ 0 ∧ 0 < (C.length : Int)), (((C.getD 0 0) : Int) ≠ 0 ∧ Fit ((B - 1).tdiv (C.getD 0 0))), Fit (((B - 1).tdiv (C.getD 0 0)) + 1)] ?_ (Zr (Rv hcx (congrArg AV.tup (consE (congrArg AV.int (show (((B - 1).tdiv (C.getD 0 0)) + 1) = (Cn.evK C B) from (by first | exact e1.symm | exact e2.symm | (rw [e1, e2]; done)))) (consE (congrArg AV.bool (show true = (Cn.evB C) from (by first | exact e1.symm | exact e2.symm | (rw [e1, e2]; done)))) rfl))) [] rfl))))
     ·
      refine ap ?_ (ap ?_ (ap ?_ (ap ?_ az))) <;>
       omega
 ·
  cases hσ
def cx_eWayZ : Cx := ⟨tyEnc, [(84, (orF (coeF [.agg [.ld (.ints []), .ld (.ints []), .id, .id]] eEven_σ) (coeF [.agg [.ld (.ints []), .ld (.ints []), .id, .id]] eEvenZ_σ)))], true⟩
theorem cx_eWayZ_ok : CxOk Tryz.prog cx_eWayZ := cx_ok tyEnc_ok ⟨((eEven_sound.coe [.agg [.ld (.ints []), .ld (.ints []), .id, .id]] rfl).or (eEvenZ_sound.coe [.agg [.ld (.ints []), .ld (.ints []), .id, .id]] rfl)), trivial⟩
def eWayZ_σ : CtF
  | [.agg [.im (.ls (.ints C)), .im (.ls (.ints L)), .im (.val (.int .i64 B)), .im (.val .nilFunc)]], [] => some (Cn.NormC C B, .int (Cn.wayP C B), [])
  | _, _ => none
theorem eWayZ_sound : Sound Tryz.prog 34 eWayZ_σ := by
 refine Sw (cx := cx_eWayZ) Tryz.f34 Tryz.func34 ?_
 intro wW wO wβ G0 args os p r outs hσ hp
 have hcx := cx_eWayZ_ok
 have hmx : Tryz.prog.follows .mixedOrders = true := by kernel_rfl
 unfold eWayZ_σ at hσ
 split at hσ
 ·
  rename_i C L B
  cases hσ
  refine ⟨by kernel_rfl, ?_⟩
  have hn := hp
  have hl := hp.1
  have hb := Cn.nc_bd hp
  have hnk := fun h => Cn.nk_bd hn h
  have hfe := fun h => (Cn.ev_fact hn h).1
  refine Sz hcx [(1000, .frz)] [1] [0] [] (Sq hcx [] [3, 4] [] [] [(Cn.NormC C B)] ?_ (Zs (Sz hcx [] [5] [] [] (Zb (Sq hcx [] [15] [] [] [(((C.length : Int) == 0) = true → (((C.length : Int) == 0) = true)), (((C.length : Int) == 0) = true → (((C.length : Int) == 0) = true)), (((C.length : Int) == 0) = true → (((C.length : Int) == 0) = true)), (((C.length : Int) == 0) = true → ((C.length : Int) == 0) = true)] ?_ (Zi (b := ((C.length : Int) == 0) && (B == 0)) (fun h0 => ?_) fun h0 => ?_))))))
  ·
   refine ap ?_ az
   omega
  ·
   refine ap ?_ (ap ?_ (ap ?_ (ap (by exact id) az))) <;>
    exact id
  ·
   have hr := Cn.wy_5 h0
   exact Sz hcx [] [2] [15, 5, 3, 4, 1] [] (Zr (Fk (Fr (Rv hcx (congrArg AV.int (show 5 = (Cn.wayP C B) from (by exact hr.symm))) [] rfl))))
  ·
   have h5_ := h0
   refine Sz hcx [] [24] [15] [] (Zu (a := (C.length : Int)) (b := 0) (fun h1 => ?_) fun h1 => ?_)
   ·
    have hr := Cn.wy_6 h5_ h1
    exact Sz hcx [] [2] [24, 5, 3, 4, 1] [] (Zr (Fk (Fr (Rv hcx (congrArg AV.int (show 6 = (Cn.wayP C B) from (by exact hr.symm))) [] rfl))))
   ·
    have h6_ := h1
    refine Sd hcx hmx [0, 1, 3, 7, 15, 31, 63, 3, 131, 387, 1023, 2047, 4095] [] [27] [24, 1] [] [((Cn.evB C) = true → ((Cn.evB C) = true)), ((Cn.evB C) = true → ((Cn.evB C) = true)), ((Cn.evB C) = true → ((Cn.evB C) = true)), ((Cn.evB C) = true → ((0 : Int) ≤ 0 ∧ 0 < (C.length : Int))), ((Cn.evB C) = true → ((Cn.evB C) = true)), ((Cn.evB C) = true → ((Cn.evB C) = true)), ((Cn.evB C) = true → ((Cn.evB C) = true)), ((Cn.evB C) = true → ((Cn.evB C) = true)), ((Cn.evB C) = true → ((Cn.evB C) = true)), ((Cn.evB C) = true → (Cn.evB C) = true)] ?_ (Zi (b := (Cn.evB C) && ((C.getD 0 0) == B)) (fun h2 => ?_) fun h2 => ?_)
    ·
     refine ap ?_ (ap ?_ (ap ?_ (ap ?_ (ap ?_ (ap ?_ (ap ?_ (ap ?_ (ap ?_ (ap (by exact id) az))))))))) <;>
      first | omega | exact id
    ·
     have hr := Cn.wy_1 h6_ h2
     exact Sz hcx [] [2] [27, 5, 3, 4] [] (Zr (Fk (Fr (Rv hcx (congrArg AV.int (show 1 = (Cn.wayP C B) from (by exact hr.symm))) [] rfl))))
    ·
     have h1_ := h2
     refine Sq hcx [] [40] [27] [] [((Cn.evB C) = true → ((Cn.evB C) = true)), ((Cn.evB C) = true → (Cn.evB C) = true)] ?_ (Zi (b := (Cn.evB C) && (decide ((C.length : Int) ≤ 10))) (fun h3 => ?_) fun h3 => ?_)
     ·
      refine ap ?_ (ap (by exact id) az)
      exact id
     ·
      have hr := Cn.wy_2 h6_ h1_ h3
      exact Sz hcx [] [2] [40, 5, 3, 4] [] (Zr (Fk (Fr (Rv hcx (congrArg AV.int (show 2 = (Cn.wayP C B) from (by exact hr.symm))) [] rfl))))
     ·
      have h2_ := h3
      refine Sq hcx [] [46] [40, 5, 3, 4] [] [((Cn.evB C) = true → ((Cn.evB C) = true)), ((Cn.evB C) = true → ((Cn.evB C) = true)), ((Cn.evB C) = true → Fit ((C.length : Int) * (Cn.evK C B))), ((Cn.evB C) = true → ((Cn.evB C) = true)), ((Cn.evB C) = true → (Cn.evB C) = true)] ?_ (Zi (b := (Cn.evB C) && (decide (((C.length : Int) * (Cn.evK C B)) ≤ 400))) (fun h4 => ?_) fun h4 => ?_)
      ·
       refine ap ?_ (ap ?_ (ap ?_ (ap ?_ (ap (by exact id) az)))) <;>
        first | exact id | (intro h8; have h9 := hnk h8; constructor <;> omega)
      ·
       have hr := Cn.wy_3 h6_ h1_ h2_ h4
       exact Sz hcx [] [2] [46] [] (Zr (Fk (Fr (Rv hcx (congrArg AV.int (show 3 = (Cn.wayP C B) from (by exact hr.symm))) [] rfl))))
      ·
       have hr := Cn.wy_4 h6_ h1_ h2_ h4
       exact Zk (Fb (Ft (Sz hcx [] [2] [46] [] (Zr (Rv hcx (congrArg AV.int (show 4 = (Cn.wayP C B) from (by exact hr.symm))) [] rfl)))))
 ·
  cases hσ
def cx_eHow : Cx := ⟨tyEnc, [(34, (orF (coeF [.agg [.ld (.ints []), .ld (.ints []), .id, .id]] eWay_σ) (coeF [.agg [.ld (.ints []), .ld (.ints []), .id, .id]] eWayZ_σ))), (22, (coeF [.agg [.ld (.ints []), .ld (.ints []), .id], .id] lcheck_σ.up)), (33, (coeF [.agg [.ld (.ints []), .ld (.ints []), .id]] lnorm_σ.up))], true⟩
theorem cx_eHow_ok : CxOk Tryz.prog cx_eHow := cx_ok tyEnc_ok ⟨((eWay_sound.coe [.agg [.ld (.ints []), .ld (.ints []), .id, .id]] rfl).or (eWayZ_sound.coe [.agg [.ld (.ints []), .ld (.ints []), .id, .id]] rfl)), (lcheck_sound.up.coe [.agg [.ld (.ints []), .ld (.ints []), .id], .id] rfl), (lnorm_sound.up.coe [.agg [.ld (.ints []), .ld (.ints []), .id]] rfl), trivial⟩
def eHow_σ : CtF
  | [.agg [.im (.ls (.ints C)), .im (.ls (.ints L)), .im (.val (.int .i64 B))]], [] => some (True, .tup [.int ((Cn.howR C L B).1), .int ((Cn.howR C L B).2)], [])
  | _, _ => none
theorem eHow_sound : Sound Tryz.prog 10 eHow_σ := by
 refine Sw (cx := cx_eHow) Tryz.f10 Tryz.func10 ?_
 intro wW wO wβ G0 args os p r outs hσ hp
 have hcx := cx_eHow_ok
 unfold eHow_σ at hσ
 split at hσ
 ·
  rename_i C L B
  cases hσ
  refine ⟨by kernel_rfl, ?_⟩
  refine Sz hcx [(1000, .frz)] [1] [0] [] (Zs (Sq hcx [] [4] [] [] [(True)] ?_ (Sz hcx [] [8] [] [] (Zx (a := (lcheck ⟨C, L, B⟩ (65536 : Int))) (b := 0) (fun h0 => ?_) fun h0 => ?_))))
  ·
   refine ap ?_ az
   omega
  ·
   have hr : Cn.howR C L B = (0, lcheck ⟨C, L, B⟩ 65536) := if_pos h0
   exact Sz hcx [] [2, 3] [8, 4, 1] [] (Zr (Fr (Rv hcx (congrArg AV.tup (consE (congrArg AV.int (show 0 = (Cn.howR C L B).1 from (by (rw [hr]; done)))) (consE (congrArg AV.int (show lcheck ⟨C, L, B⟩ (65536 : Int) = (Cn.howR C L B).2 from (by (rw [hr]; done)))) rfl))) [] rfl)))
  ·
   have h0 : lcheck ⟨C, L, B⟩ 65536 = 0 := by have := h0; omega
   have hr : Cn.howR C L B = (Cn.wayP (normP ⟨C, L, B⟩).C (normP ⟨C, L, B⟩).B, 0) := if_neg (fun q => q h0)
   obtain ⟨n1, n2, n3⟩ := Cn.norm_nc h0
   refine Zk (Ft (Sq hcx [] [2, 3] [8, 4, 1] [] [(True), (Cn.NormC ((normP ⟨C, L, B⟩).C) ((normP ⟨C, L, B⟩).B))] ?_ (Zr (Rv hcx (congrArg AV.tup (consE (congrArg AV.int (show (Cn.wayP ((normP ⟨C, L, B⟩).C) ((normP ⟨C, L, B⟩).B)) = (Cn.howR C L B).1 from (by (rw [hr]; done)))) (consE (congrArg AV.int (show 0 = (Cn.howR C L B).2 from (by (rw [hr]; done)))) rfl))) [] rfl))))
   ·
    refine ap ?_ (ap ?_ az) <;>
     omega
 ·
  cases hσ
def eWayK_σ (k : Int) : CtF
  | [.agg [.im (.ls (.ints C)), .im (.ls (.ints L)), .im (.val (.int .i64 B)), .clo 38 [.pto [.val (.int .i64 g)]]]], [] => some (Cn.NormC C B ∧ Cn.wayP C B = k, .int k, [])
  | _, _ => none
theorem eWayK_sound (k : Int) : Sound Tryz.prog 34 (eWayK_σ k) := eWay_sound.weak fun args os p r outs h => by
  unfold eWayK_σ at h
  split at h
  · simp only [Option.some.injEq, Prod.mk.injEq] at h
    obtain ⟨rfl, rfl, rfl⟩ := h
    exact ⟨_, _, rfl, fun hp => ⟨hp.1, by rw [hp.2]⟩⟩
  · cases h
def cxW1 : Cx := ⟨tyEnc, [(34, (coeF [.agg [.ld (.ints []), .ld (.ints []), .id, .id]] (eWayK_σ 1))), (88, (coeF [.agg [.ld (.ints []), .ld (.ints []), .id, .id], .id] eClause_σ)), (39, eWays_σ)], true⟩
theorem cxW1_ok : CxOk Tryz.prog cxW1 := cx_ok tyEnc_ok ⟨((eWayK_sound 1).coe [.agg [.ld (.ints []), .ld (.ints []), .id, .id]] rfl), (eClause_sound.coe [.agg [.ld (.ints []), .ld (.ints []), .id, .id], .id] rfl), eWays_sound, trivial⟩
def cxW2 : Cx := ⟨tyEnc, [(34, (coeF [.agg [.ld (.ints []), .ld (.ints []), .id, .id]] (eWayK_σ 2))), (89, (coeF [.agg [.ld (.ints []), .ld (.ints []), .id, .id], .id] eTotal_σ)), (39, eWays_σ)], true⟩
theorem cxW2_ok : CxOk Tryz.prog cxW2 := cx_ok tyEnc_ok ⟨((eWayK_sound 2).coe [.agg [.ld (.ints []), .ld (.ints []), .id, .id]] rfl), (eTotal_sound.coe [.agg [.ld (.ints []), .ld (.ints []), .id, .id], .id] rfl), eWays_sound, trivial⟩
def cxW3 : Cx := ⟨tyEnc, [(34, (coeF [.agg [.ld (.ints []), .ld (.ints []), .id, .id]] (eWayK_σ 3))), (90, (coeF [.agg [.ld (.ints []), .ld (.ints []), .id, .id], .id] eCount_σ)), (39, eWays_σ)], true⟩
theorem cxW3_ok : CxOk Tryz.prog cxW3 := cx_ok tyEnc_ok ⟨((eWayK_sound 3).coe [.agg [.ld (.ints []), .ld (.ints []), .id, .id]] rfl), (eCount_sound.coe [.agg [.ld (.ints []), .ld (.ints []), .id, .id], .id] rfl), eWays_sound, trivial⟩
def cxW4 : Cx := ⟨tyEnc, [(34, (coeF [.agg [.ld (.ints []), .ld (.ints []), .id, .id]] (eWayK_σ 4))), (91, (coeF [.agg [.ld (.ints []), .ld (.ints []), .id, .id], .id] eAdd_σ)), (39, eWays_σ)], true⟩
theorem cxW4_ok : CxOk Tryz.prog cxW4 := cx_ok tyEnc_ok ⟨((eWayK_sound 4).coe [.agg [.ld (.ints []), .ld (.ints []), .id, .id]] rfl), (eAdd_sound.coe [.agg [.ld (.ints []), .ld (.ints []), .id, .id], .id] rfl), eWays_sound, trivial⟩
def cxW5 : Cx := ⟨tyEnc, [(34, (coeF [.agg [.ld (.ints []), .ld (.ints []), .id, .id]] (eWayK_σ 5))), (92, (coeF [.agg [.ld (.ints []), .ld (.ints []), .id, .id], .id] eNothing_σ)), (39, eWays_σ)], true⟩
theorem cxW5_ok : CxOk Tryz.prog cxW5 := cx_ok tyEnc_ok ⟨((eWayK_sound 5).coe [.agg [.ld (.ints []), .ld (.ints []), .id, .id]] rfl), (eNothing_sound.coe [.agg [.ld (.ints []), .ld (.ints []), .id, .id], .id] rfl), eWays_sound, trivial⟩
def cxW6 : Cx := ⟨tyEnc, [(34, (coeF [.agg [.ld (.ints []), .ld (.ints []), .id, .id]] (eWayK_σ 6))), (93, (coeF [.agg [.ld (.ints []), .ld (.ints []), .id, .id], .id] eNever_σ)), (39, eWays_σ)], true⟩
theorem cxW6_ok : CxOk Tryz.prog cxW6 := cx_ok tyEnc_ok ⟨((eWayK_sound 6).coe [.agg [.ld (.ints []), .ld (.ints []), .id, .id]] rfl), (eNever_sound.coe [.agg [.ld (.ints []), .ld (.ints []), .id, .id], .id] rfl), eWays_sound, trivial⟩
def cx_eOne : Cx := ⟨tyEnc, [(22, (coeF [.agg [.ld (.ints []), .ld (.ints []), .id], .id] lcheck_σ.up)), (33, (coeF [.agg [.ld (.ints []), .ld (.ints []), .id]] lnorm_σ.up))], true⟩
theorem cx_eOne_ok : CxOk Tryz.prog cx_eOne := cx_ok tyEnc_ok ⟨(lcheck_sound.up.coe [.agg [.ld (.ints []), .ld (.ints []), .id], .id] rfl), (lnorm_sound.up.coe [.agg [.ld (.ints []), .ld (.ints []), .id]] rfl), trivial⟩
def eOne_σ : CtF
  | [.agg [.im (.ls (.ints C)), .im (.ls (.ints L)), .im (.val (.int .i64 B))], .im (.val (.int .i64 g)), .im (.val (.int .i64 next))], [] => some (Fit g ∧ Fit next, .tup [.intss ((Cn.oneR C L B g next).1), .int ((Cn.oneR C L B g next).2.1), .int ((Cn.oneR C L B g next).2.2)], [])
  | _, _ => none
theorem eOne_sound : Sound Tryz.prog 12 eOne_σ := by
 refine Sw (cx := cx_eOne) Tryz.f12 Tryz.func12 ?_
 intro wW wO wβ G0 args os p r outs hσ hp
 have hcx := cx_eOne_ok
 have hmx : Tryz.prog.follows .mixedOrders = true := by kernel_rfl
 unfold eOne_σ at hσ
 split at hσ
 ·
  rename_i C L B g next
  cases hσ
  refine ⟨by kernel_rfl, ?_⟩
  obtain ⟨hf1, hf2⟩ := hp
  refine Sz hcx [(1000, .frz), (1001, .frz)] [3, 4] [0, 1] [] (Zs (Sq hcx [] [15] [] [] [((!(decide (next < 1))) = true → ((!(decide (next < 1))) = true)), ((decide (next < 1)) = false → (!(decide (next < 1))) = true)] ?_ (Zi (b := (decide (next < 1)) || (decide (next > 65537))) (fun h0 => ?_) fun h0 => ?_)))
  ·
   refine ap ?_ (ap (by exact vcNot) az)
   exact id
  ·
   have hr := Cn.on_arg (C := C) (L := L) (B := B) (g := g) (Cn.on_b.1 h0)
   exact Sz hcx [] [6, 7, 8] [15, 3, 4, 2] [] (Zr (Fr (Fp 6 (.intss []) (Rv hcx (congrArg AV.tup (consE (congrArg AV.intss (show [] = (Cn.oneR C L B g next).1 from (by first | (rw [hr]; done) | (rw [hr, Cn.es_1 hk]; done) | (rw [hr, Cn.es_2 hk]; done) | (rw [hr, Cn.es_3 hk]; done) | (rw [hr, Cn.es_4 hk]; done) | (rw [hr, Cn.es_5 hk]; done) | (rw [hr, Cn.es_6 hk]; done)))) (consE (congrArg AV.int (show 0 = (Cn.oneR C L B g next).2.1 from (by first | (rw [hr]; done) | (rw [hr, Cn.es_1 hk]; done) | (rw [hr, Cn.es_2 hk]; done) | (rw [hr, Cn.es_3 hk]; done) | (rw [hr, Cn.es_4 hk]; done) | (rw [hr, Cn.es_5 hk]; done) | (rw [hr, Cn.es_6 hk]; done)))) (consE (congrArg AV.int (show 1 = (Cn.oneR C L B g next).2.2 from (by first | (rw [hr]; done) | (rw [hr, Cn.es_1 hk]; done) | (rw [hr, Cn.es_2 hk]; done) | (rw [hr, Cn.es_3 hk]; done) | (rw [hr, Cn.es_4 hk]; done) | (rw [hr, Cn.es_5 hk]; done) | (rw [hr, Cn.es_6 hk]; done)))) rfl)))) [] rfl))))
  ·
   have h15_ := Cn.on_bF h0
   refine Zk (Ft (Zs (Sq hcx [] [8] [15] [] [Fit (next - 1), (True)] ?_ (Sz hcx [] [21] [] [] (Zx (a := (lcheck ⟨C, L, B⟩ (next - 1))) (b := 0) (fun h1 => ?_) fun h1 => ?_)))))
   ·
    refine ap ?_ (ap ?_ az) <;>
     first | omega | exact True.intro
   ·
    have hr := Cn.on_chk (g := g) h15_ h1
    exact Sz hcx [] [6, 7, 8] [21, 3, 4, 2] [] (Zr (Fr (Fp 6 (.intss []) (Rv hcx (congrArg AV.tup (consE (congrArg AV.intss (show [] = (Cn.oneR C L B g next).1 from (by first | (rw [hr]; done) | (rw [hr, Cn.es_1 hk]; done) | (rw [hr, Cn.es_2 hk]; done) | (rw [hr, Cn.es_3 hk]; done) | (rw [hr, Cn.es_4 hk]; done) | (rw [hr, Cn.es_5 hk]; done) | (rw [hr, Cn.es_6 hk]; done)))) (consE (congrArg AV.int (show 0 = (Cn.oneR C L B g next).2.1 from (by first | (rw [hr]; done) | (rw [hr, Cn.es_1 hk]; done) | (rw [hr, Cn.es_2 hk]; done) | (rw [hr, Cn.es_3 hk]; done) | (rw [hr, Cn.es_4 hk]; done) | (rw [hr, Cn.es_5 hk]; done) | (rw [hr, Cn.es_6 hk]; done)))) (consE (congrArg AV.int (show lcheck ⟨C, L, B⟩ (next - 1) = (Cn.oneR C L B g next).2.2 from (by first | (rw [hr]; done) | (rw [hr, Cn.es_1 hk]; done) | (rw [hr, Cn.es_2 hk]; done) | (rw [hr, Cn.es_3 hk]; done) | (rw [hr, Cn.es_4 hk]; done) | (rw [hr, Cn.es_5 hk]; done) | (rw [hr, Cn.es_6 hk]; done)))) rfl)))) [] rfl))))
   ·
    have h21_ : lcheck ⟨C, L, B⟩ (next - 1) = 0 := by have := h1; omega
    obtain ⟨n1, n2, n3⟩ := Cn.norm_nc h21_
    refine Zk (Ft (Zs (Sq hcx [] [31] [21, 8] [] [((!(decide (g ≥ next))) = true → ((!(decide (g ≥ next))) = true)), ((!(decide (g ≥ next))) = true → Fit (-next)), ((!(decide (g ≥ next))) = true → ((!(decide (g ≥ next))) = true)), ((!(decide (g ≥ next))) = true → ((!(decide (g ≥ next))) = true)), ((decide (g ≥ next)) = false → (!(decide (g ≥ next))) = true)] ?_ (Zi (b := (decide (g ≥ next)) || (decide (g ≤ (-next)))) (fun h2 => ?_) fun h2 => ?_))))
    ·
     refine ap ?_ (ap ?_ (ap ?_ (ap ?_ (ap (by exact vcNot) az)))) <;>
      first | omega | exact id
    ·
     have hr := Cn.on_lit h15_ h21_ (Cn.on_l.1 h2)
     exact Sz hcx [] [6, 7, 8] [31, 3, 4, 2] [] (Zr (Fr (Fp 6 (.intss []) (Rv hcx (congrArg AV.tup (consE (congrArg AV.intss (show [] = (Cn.oneR C L B g next).1 from (by first | (rw [hr]; done) | (rw [hr, Cn.es_1 hk]; done) | (rw [hr, Cn.es_2 hk]; done) | (rw [hr, Cn.es_3 hk]; done) | (rw [hr, Cn.es_4 hk]; done) | (rw [hr, Cn.es_5 hk]; done) | (rw [hr, Cn.es_6 hk]; done)))) (consE (congrArg AV.int (show 0 = (Cn.oneR C L B g next).2.1 from (by first | (rw [hr]; done) | (rw [hr, Cn.es_1 hk]; done) | (rw [hr, Cn.es_2 hk]; done) | (rw [hr, Cn.es_3 hk]; done) | (rw [hr, Cn.es_4 hk]; done) | (rw [hr, Cn.es_5 hk]; done) | (rw [hr, Cn.es_6 hk]; done)))) (consE (congrArg AV.int (show 140 = (Cn.oneR C L B g next).2.2 from (by first | (rw [hr]; done) | (rw [hr, Cn.es_1 hk]; done) | (rw [hr, Cn.es_2 hk]; done) | (rw [hr, Cn.es_3 hk]; done) | (rw [hr, Cn.es_4 hk]; done) | (rw [hr, Cn.es_5 hk]; done) | (rw [hr, Cn.es_6 hk]; done)))) rfl)))) [] rfl))))
    ·
     have h31_ := Cn.on_lF h2
     have hr := Cn.on_ok h15_ h21_ h31_
     refine Zk (Ft (Sq hcx [(1004, .to 609)] [9] [31, 3, 4] [] [(True)] ?_ (Zs ?_)))
     ·
      refine ap ?_ az
      exact True.intro
     rcases ((Cn.way_six (normP ⟨C, L, B⟩).C (normP ⟨C, L, B⟩).B) : Cn.wayP (normP ⟨C, L, B⟩).C (normP ⟨C, L, B⟩).B = 1 ∨ Cn.wayP (normP ⟨C, L, B⟩).C (normP ⟨C, L, B⟩).B = 2 ∨ Cn.wayP (normP ⟨C, L, B⟩).C (normP ⟨C, L, B⟩).B = 3 ∨ Cn.wayP (normP ⟨C, L, B⟩).C (normP ⟨C, L, B⟩).B = 4 ∨ Cn.wayP (normP ⟨C, L, B⟩).C (normP ⟨C, L, B⟩).B = 5 ∨ Cn.wayP (normP ⟨C, L, B⟩).C (normP ⟨C, L, B⟩).B = 6) with hk | hk | hk | hk | hk | hk
     ·
      refine Tcd cxW1 cxW1_ok hmx [0, 0, 3, 7, 0, 0, 63, 127, 127, 127, 1023, 2047, 4095] [(1006, .to 242)] [6, 7, 8] [9, 2] [609] [(True), (Cn.NormC ((normP ⟨C, L, B⟩).C) ((normP ⟨C, L, B⟩).B) ∧ Cn.wayP ((normP ⟨C, L, B⟩).C) ((normP ⟨C, L, B⟩).B) = 1), (((normP ⟨C, L, B⟩).L).length ≤ 1000000 ∧ -65537 ≤ g ∧ g ≤ 65537)] ?_ ?_
      ·
       refine ap ?_ (ap ?_ (ap ?_ az)) <;>
        first | exact True.intro | exact ⟨n1, hk⟩ | exact ⟨by have := n1.1; omega, by omega, by omega⟩
      exact Ft (Zr (Fn [(242, .frz)] [6, 7, 8] (Rv hcx (congrArg AV.tup (consE (congrArg AV.intss (show (Cn.grd g [((normP ⟨C, L, B⟩).L)]) = (Cn.oneR C L B g next).1 from (by first | (rw [hr]; done) | (rw [hr, Cn.es_1 hk]; done) | (rw [hr, Cn.es_2 hk]; done) | (rw [hr, Cn.es_3 hk]; done) | (rw [hr, Cn.es_4 hk]; done) | (rw [hr, Cn.es_5 hk]; done) | (rw [hr, Cn.es_6 hk]; done)))) (consE (congrArg AV.int (show next = (Cn.oneR C L B g next).2.1 from (by first | (rw [hr]; done) | (rw [hr, Cn.es_1 hk]; done) | (rw [hr, Cn.es_2 hk]; done) | (rw [hr, Cn.es_3 hk]; done) | (rw [hr, Cn.es_4 hk]; done) | (rw [hr, Cn.es_5 hk]; done) | (rw [hr, Cn.es_6 hk]; done)))) (consE (congrArg AV.int (show 0 = (Cn.oneR C L B g next).2.2 from (by first | (rw [hr]; done) | (rw [hr, Cn.es_1 hk]; done) | (rw [hr, Cn.es_2 hk]; done) | (rw [hr, Cn.es_3 hk]; done) | (rw [hr, Cn.es_4 hk]; done) | (rw [hr, Cn.es_5 hk]; done) | (rw [hr, Cn.es_6 hk]; done)))) rfl)))) [] rfl)))
     ·
      refine Tcd cxW2 cxW2_ok hmx [0, 0, 3, 7, 0, 0, 63, 127, 127, 127, 1023, 2047, 4095] [] [6, 7, 8] [9, 2] [609] [(True), (Cn.NormC ((normP ⟨C, L, B⟩).C) ((normP ⟨C, L, B⟩).B) ∧ Cn.wayP ((normP ⟨C, L, B⟩).C) ((normP ⟨C, L, B⟩).B) = 2), (Cn.NormC ((normP ⟨C, L, B⟩).C) ((normP ⟨C, L, B⟩).B) ∧ Cn.evB ((normP ⟨C, L, B⟩).C) = true ∧ ((normP ⟨C, L, B⟩).L).length = ((normP ⟨C, L, B⟩).C).length ∧ (∀ x ∈ ((normP ⟨C, L, B⟩).L), x ≠ 0 ∧ -65536 ≤ x ∧ x ≤ 65536) ∧ Fit next ∧ -65537 ≤ g ∧ g ≤ 65537)] ?_ ?_
      ·
       refine ap ?_ (ap ?_ (ap ?_ az)) <;>
        first | exact True.intro | exact ⟨n1, hk⟩ | exact ⟨n1, Cn.way_ev (.inl hk), n2, n3, hf2, by omega, by omega⟩
      exact Ft (Zr (Rv hcx (congrArg AV.tup (consE (congrArg AV.intss (show (Cn.encT ((normP ⟨C, L, B⟩).C) ((normP ⟨C, L, B⟩).L) ((normP ⟨C, L, B⟩).B) g next).1 = (Cn.oneR C L B g next).1 from (by first | (rw [hr]; done) | (rw [hr, Cn.es_1 hk]; done) | (rw [hr, Cn.es_2 hk]; done) | (rw [hr, Cn.es_3 hk]; done) | (rw [hr, Cn.es_4 hk]; done) | (rw [hr, Cn.es_5 hk]; done) | (rw [hr, Cn.es_6 hk]; done)))) (consE (congrArg AV.int (show (Cn.encT ((normP ⟨C, L, B⟩).C) ((normP ⟨C, L, B⟩).L) ((normP ⟨C, L, B⟩).B) g next).2.1 = (Cn.oneR C L B g next).2.1 from (by first | (rw [hr]; done) | (rw [hr, Cn.es_1 hk]; done) | (rw [hr, Cn.es_2 hk]; done) | (rw [hr, Cn.es_3 hk]; done) | (rw [hr, Cn.es_4 hk]; done) | (rw [hr, Cn.es_5 hk]; done) | (rw [hr, Cn.es_6 hk]; done)))) (consE (congrArg AV.int (show (Cn.encT ((normP ⟨C, L, B⟩).C) ((normP ⟨C, L, B⟩).L) ((normP ⟨C, L, B⟩).B) g next).2.2 = (Cn.oneR C L B g next).2.2 from (by first | (rw [hr]; done) | (rw [hr, Cn.es_1 hk]; done) | (rw [hr, Cn.es_2 hk]; done) | (rw [hr, Cn.es_3 hk]; done) | (rw [hr, Cn.es_4 hk]; done) | (rw [hr, Cn.es_5 hk]; done) | (rw [hr, Cn.es_6 hk]; done)))) rfl)))) [] rfl))
     ·
      refine Tcd cxW3 cxW3_ok hmx [0, 0, 3, 7, 0, 0, 63, 127, 127, 127, 1023, 2047, 4095] [] [6, 7, 8] [9, 2] [609] [(True), (Cn.NormC ((normP ⟨C, L, B⟩).C) ((normP ⟨C, L, B⟩).B) ∧ Cn.wayP ((normP ⟨C, L, B⟩).C) ((normP ⟨C, L, B⟩).B) = 3), (Cn.NormC ((normP ⟨C, L, B⟩).C) ((normP ⟨C, L, B⟩).B) ∧ Cn.evB ((normP ⟨C, L, B⟩).C) = true ∧ ((normP ⟨C, L, B⟩).L).length = ((normP ⟨C, L, B⟩).C).length ∧ (∀ x ∈ ((normP ⟨C, L, B⟩).L), x ≠ 0 ∧ -65536 ≤ x ∧ x ≤ 65536) ∧ Fit next ∧ -65537 ≤ g ∧ g ≤ 65537)] ?_ ?_
      ·
       refine ap ?_ (ap ?_ (ap ?_ az)) <;>
        first | exact True.intro | exact ⟨n1, hk⟩ | exact ⟨n1, Cn.way_ev (.inr hk), n2, n3, hf2, by omega, by omega⟩
      exact Ft (Zr (Rv hcx (congrArg AV.tup (consE (congrArg AV.intss (show (Cn.encN ((normP ⟨C, L, B⟩).C) ((normP ⟨C, L, B⟩).L) ((normP ⟨C, L, B⟩).B) g next).1 = (Cn.oneR C L B g next).1 from (by first | (rw [hr]; done) | (rw [hr, Cn.es_1 hk]; done) | (rw [hr, Cn.es_2 hk]; done) | (rw [hr, Cn.es_3 hk]; done) | (rw [hr, Cn.es_4 hk]; done) | (rw [hr, Cn.es_5 hk]; done) | (rw [hr, Cn.es_6 hk]; done)))) (consE (congrArg AV.int (show (Cn.encN ((normP ⟨C, L, B⟩).C) ((normP ⟨C, L, B⟩).L) ((normP ⟨C, L, B⟩).B) g next).2.1 = (Cn.oneR C L B g next).2.1 from (by first | (rw [hr]; done) | (rw [hr, Cn.es_1 hk]; done) | (rw [hr, Cn.es_2 hk]; done) | (rw [hr, Cn.es_3 hk]; done) | (rw [hr, Cn.es_4 hk]; done) | (rw [hr, Cn.es_5 hk]; done) | (rw [hr, Cn.es_6 hk]; done)))) (consE (congrArg AV.int (show (Cn.encN ((normP ⟨C, L, B⟩).C) ((normP ⟨C, L, B⟩).L) ((normP ⟨C, L, B⟩).B) g next).2.2 = (Cn.oneR C L B g next).2.2 from (by first | (rw [hr]; done) | (rw [hr, Cn.es_1 hk]; done) | (rw [hr, Cn.es_2 hk]; done) | (rw [hr, Cn.es_3 hk]; done) | (rw [hr, Cn.es_4 hk]; done) | (rw [hr, Cn.es_5 hk]; done) | (rw [hr, Cn.es_6 hk]; done)))) rfl)))) [] rfl))
     ·
      refine Tcd cxW4 cxW4_ok hmx [0, 0, 3, 7, 0, 0, 63, 127, 127, 127, 1023, 2047, 4095] [] [6, 7, 8] [9, 2] [609] [(True), (Cn.NormC ((normP ⟨C, L, B⟩).C) ((normP ⟨C, L, B⟩).B) ∧ Cn.wayP ((normP ⟨C, L, B⟩).C) ((normP ⟨C, L, B⟩).B) = 4), (((normP ⟨C, L, B⟩).C).length ≤ 4096 ∧ ((normP ⟨C, L, B⟩).L).length = ((normP ⟨C, L, B⟩).C).length ∧ -65537 ≤ g ∧ g ≤ 65537)] ?_ ?_
      ·
       refine ap ?_ (ap ?_ (ap ?_ az)) <;>
        first | exact True.intro | exact ⟨n1, hk⟩ | exact ⟨n1.1, n2, by omega, by omega⟩
      exact Ft (Zr (Rv hcx (congrArg AV.tup (consE (congrArg AV.intss (show (Cn.encA ((normP ⟨C, L, B⟩).C) ((normP ⟨C, L, B⟩).L) ((normP ⟨C, L, B⟩).B) g next).1 = (Cn.oneR C L B g next).1 from (by first | (rw [hr]; done) | (rw [hr, Cn.es_1 hk]; done) | (rw [hr, Cn.es_2 hk]; done) | (rw [hr, Cn.es_3 hk]; done) | (rw [hr, Cn.es_4 hk]; done) | (rw [hr, Cn.es_5 hk]; done) | (rw [hr, Cn.es_6 hk]; done)))) (consE (congrArg AV.int (show (Cn.encA ((normP ⟨C, L, B⟩).C) ((normP ⟨C, L, B⟩).L) ((normP ⟨C, L, B⟩).B) g next).2.1 = (Cn.oneR C L B g next).2.1 from (by first | (rw [hr]; done) | (rw [hr, Cn.es_1 hk]; done) | (rw [hr, Cn.es_2 hk]; done) | (rw [hr, Cn.es_3 hk]; done) | (rw [hr, Cn.es_4 hk]; done) | (rw [hr, Cn.es_5 hk]; done) | (rw [hr, Cn.es_6 hk]; done)))) (consE (congrArg AV.int (show (Cn.encA ((normP ⟨C, L, B⟩).C) ((normP ⟨C, L, B⟩).L) ((normP ⟨C, L, B⟩).B) g next).2.2 = (Cn.oneR C L B g next).2.2 from (by first | (rw [hr]; done) | (rw [hr, Cn.es_1 hk]; done) | (rw [hr, Cn.es_2 hk]; done) | (rw [hr, Cn.es_3 hk]; done) | (rw [hr, Cn.es_4 hk]; done) | (rw [hr, Cn.es_5 hk]; done) | (rw [hr, Cn.es_6 hk]; done)))) rfl)))) [] rfl))
     ·
      refine Tcd cxW5 cxW5_ok hmx [0, 0, 3, 7, 0, 0, 63, 127, 127, 127, 1023, 2047, 4095] [] [6, 7, 8] [9, 2] [609] [(True), (Cn.NormC ((normP ⟨C, L, B⟩).C) ((normP ⟨C, L, B⟩).B) ∧ Cn.wayP ((normP ⟨C, L, B⟩).C) ((normP ⟨C, L, B⟩).B) = 5), (True)] ?_ ?_
      ·
       refine ap ?_ (ap ?_ (ap ?_ az)) <;>
        first | exact True.intro | exact ⟨n1, hk⟩
      exact Ft (Zr (Fp 6 (.intss []) (Rv hcx (congrArg AV.tup (consE (congrArg AV.intss (show [] = (Cn.oneR C L B g next).1 from (by first | (rw [hr]; done) | (rw [hr, Cn.es_1 hk]; done) | (rw [hr, Cn.es_2 hk]; done) | (rw [hr, Cn.es_3 hk]; done) | (rw [hr, Cn.es_4 hk]; done) | (rw [hr, Cn.es_5 hk]; done) | (rw [hr, Cn.es_6 hk]; done)))) (consE (congrArg AV.int (show next = (Cn.oneR C L B g next).2.1 from (by first | (rw [hr]; done) | (rw [hr, Cn.es_1 hk]; done) | (rw [hr, Cn.es_2 hk]; done) | (rw [hr, Cn.es_3 hk]; done) | (rw [hr, Cn.es_4 hk]; done) | (rw [hr, Cn.es_5 hk]; done) | (rw [hr, Cn.es_6 hk]; done)))) (consE (congrArg AV.int (show 0 = (Cn.oneR C L B g next).2.2 from (by first | (rw [hr]; done) | (rw [hr, Cn.es_1 hk]; done) | (rw [hr, Cn.es_2 hk]; done) | (rw [hr, Cn.es_3 hk]; done) | (rw [hr, Cn.es_4 hk]; done) | (rw [hr, Cn.es_5 hk]; done) | (rw [hr, Cn.es_6 hk]; done)))) rfl)))) [] rfl)))
     ·
      refine Tcd cxW6 cxW6_ok hmx [0, 0, 3, 7, 0, 0, 63, 127, 127, 127, 1023, 2047, 4095] [(1006, .to 242)] [6, 7, 8] [9, 2] [609] [(True), (Cn.NormC ((normP ⟨C, L, B⟩).C) ((normP ⟨C, L, B⟩).B) ∧ Cn.wayP ((normP ⟨C, L, B⟩).C) ((normP ⟨C, L, B⟩).B) = 6), (-65537 ≤ g ∧ g ≤ 65537)] ?_ ?_
      ·
       refine ap ?_ (ap ?_ (ap ?_ az)) <;>
        first | omega | exact True.intro | exact ⟨n1, hk⟩
      exact Ft (Zr (Fn [(242, .frz)] [6, 7, 8] (Rv hcx (congrArg AV.tup (consE (congrArg AV.intss (show (Cn.grd g [[]]) = (Cn.oneR C L B g next).1 from (by first | (rw [hr]; done) | (rw [hr, Cn.es_1 hk]; done) | (rw [hr, Cn.es_2 hk]; done) | (rw [hr, Cn.es_3 hk]; done) | (rw [hr, Cn.es_4 hk]; done) | (rw [hr, Cn.es_5 hk]; done) | (rw [hr, Cn.es_6 hk]; done)))) (consE (congrArg AV.int (show next = (Cn.oneR C L B g next).2.1 from (by first | (rw [hr]; done) | (rw [hr, Cn.es_1 hk]; done) | (rw [hr, Cn.es_2 hk]; done) | (rw [hr, Cn.es_3 hk]; done) | (rw [hr, Cn.es_4 hk]; done) | (rw [hr, Cn.es_5 hk]; done) | (rw [hr, Cn.es_6 hk]; done)))) (consE (congrArg AV.int (show 0 = (Cn.oneR C L B g next).2.2 from (by first | (rw [hr]; done) | (rw [hr, Cn.es_1 hk]; done) | (rw [hr, Cn.es_2 hk]; done) | (rw [hr, Cn.es_3 hk]; done) | (rw [hr, Cn.es_4 hk]; done) | (rw [hr, Cn.es_5 hk]; done) | (rw [hr, Cn.es_6 hk]; done)))) rfl)))) [] rfl)))
 ·
  cases hσ
def cx_eAll : Cx := ⟨tyEnc, [(12, (coeF [.agg [.ld (.ints []), .ld (.ints []), .id], .id, .id] eOne_σ))], true⟩
theorem cx_eAll_ok : CxOk Tryz.prog cx_eAll := cx_ok tyEnc_ok ⟨(eOne_sound.coe [.agg [.ld (.ints []), .ld (.ints []), .id], .id, .id] rfl), trivial⟩
def eAll_σ : CtF
  | [.im (.ls (.lins l)), .im (.val (.int .i64 next))], [] => some (l.length ≤ 100 ∧ Fit next, .tup [.intss ((Cn.allR l next).1), .int ((Cn.allR l next).2.1), .int ((Cn.allR l next).2.2)], [])
  | _, _ => none
theorem eAll_sound : Sound Tryz.prog 23 eAll_σ := by
 refine Sw (cx := cx_eAll) Tryz.f23 Tryz.func23 ?_
 intro wW wO wβ G0 args os p r outs hσ hp
 have hcx := cx_eAll_ok
 unfold eAll_σ at hσ
 split at hσ
 ·
  rename_i l next
  cases hσ
  refine ⟨by kernel_rfl, ?_⟩
  obtain ⟨hm1, hf⟩ := hp
  have hsb := Cn.allSt_bd (l := l) hf
  refine Sz hcx [] [4] [] [] (Zs (Sq hcx [] [17] [] [] [((!(decide (next < 1))) = true → ((!(decide (next < 1))) = true)), ((decide (next < 1)) = false → (!(decide (next < 1))) = true)] ?_ (Zi (b := (decide (next < 1)) || (decide (next > 65537))) (fun h0 => ?_) fun h0 => ?_)))
  ·
   refine ap ?_ (ap (by exact vcNot) az)
   exact id
  ·
   have hr : Cn.allR l next = ([], 0, 1) := if_pos (Cn.on_b.1 h0)
   exact Sz hcx [] [4, 5, 6] [17, 0, 1] [] (Zr (Fr (Fp 4 (.intss []) (Rv hcx (congrArg AV.tup (consE (congrArg AV.intss (show [] = (Cn.allR l next).1 from (by first | (rw [hr]; done) | (rw [hr]; rfl) | (rw [Cn.al_end (by omega) hI2]; done)))) (consE (congrArg AV.int (show 0 = (Cn.allR l next).2.1 from (by first | (rw [hr]; done) | (rw [hr]; rfl) | (rw [Cn.al_end (by omega) hI2]; done)))) (consE (congrArg AV.int (show 1 = (Cn.allR l next).2.2 from (by first | (rw [hr]; done) | (rw [hr]; rfl) | (rw [Cn.al_end (by omega) hI2]; done)))) rfl)))) [] rfl))))
  ·
   have h17_ := Cn.on_bF h0
   refine Zk (Ft (Zs (Sz hcx [] [18, 19, 20] [17, 0] [] (Zb (Zw 4 700 22 (.intss []) (Lp (X := Nat) (fun x0 => x0 ≤ l.length ∧ Cn.allR l next = Cn.allL (l.drop x0) (Cn.allSt l next x0).2 (Cn.allSt l next x0).1) (fun x0 => ([(1, .int ((Cn.allSt l next x0).2)), (4, .row 700), (18, .lins l), (19, .int (l.length : Int)), (20, .int (x0 : Int))], [(700, .row 22 (.intss ((Cn.allSt l next x0).1)))])) (fun x0 => l.length - x0) (0) ?_ (Ex 20 (congrArg AV.int (show 0 = (0 : Int) from (by first | rfl | omega | (simp; done)))) Eb) Hb fun i hI => ?_))))))
   ·
    exact ⟨Nat.zero_le _, Cn.al_0 h17_⟩
   ·
    try dsimp only at hI
    obtain ⟨hk, hI2⟩ := hI
    have hsi := hsb i
    have hob := Cn.one_bd (l.getD i ([], [], 0)).1 (l.getD i ([], [], 0)).2.1 (l.getD i ([], [], 0)).2.2 0 (Cn.allSt l next i).2
    refine Sz hcx [] [21] [] [] (Zs (Zj (p := ((i : Int) < (l.length : Int))) (fun h1 => ?_) fun h1 => ?_))
    ·
     refine Zk (Ft (Zs (Zb (Sq hcx [(1002, .to 608)] [8] [21] [] [((0 : Int) ≤ (i : Int) ∧ (i : Int) < (l.length : Int))] ?_ (Sq hcx [] [9, 10, 11] [8, 1] [608] [(Fit (0 : Int) ∧ Fit ((Cn.allSt l next i).2))] ?_ (Zs (Sz hcx [] [32] [] [] (Zx (a := ((Cn.oneR ((l.getD i ([], [], 0)).1) ((l.getD i ([], [], 0)).2.1) ((l.getD i ([], [], 0)).2.2) (0 : Int) ((Cn.allSt l next i).2)).2.2)) (b := 0) (fun h2 => ?_) fun h2 => ?_))))))))
     ·
      refine ap ?_ az
      omega
     ·
      refine ap ?_ az
      omega
     ·
      have hr := Cn.al_err (i := i) (by omega) hI2 h2
      exact Sz hcx [] [4, 5, 6] [32, 9, 10, 11, 18, 19, 20] [700] (Zr (Fr (Fk (Fr (Fr (Fk (Fr (Fp 4 (.intss []) (Rv hcx (congrArg AV.tup (consE (congrArg AV.intss (show [] = (Cn.allR l next).1 from (by first | (rw [hr]; done) | (rw [hr]; rfl) | (rw [Cn.al_end (by omega) hI2]; done)))) (consE (congrArg AV.int (show 0 = (Cn.allR l next).2.1 from (by first | (rw [hr]; done) | (rw [hr]; rfl) | (rw [Cn.al_end (by omega) hI2]; done)))) (consE (congrArg AV.int (show (Cn.oneR ((l.getD i ([], [], 0)).1) ((l.getD i ([], [], 0)).2.1) ((l.getD i ([], [], 0)).2.2) (0 : Int) ((Cn.allSt l next i).2)).2.2 = (Cn.allR l next).2.2 from (by first | (rw [hr]; done) | (rw [hr]; rfl) | (rw [Cn.al_end (by omega) hI2]; done)))) rfl)))) [] rfl)))))))))
     ·
      have h32_ : Cn.allE l next i = 0 := by first | exact h2 | exact Decidable.not_not.1 h2
      refine Zk (Ft (Tq hcx [(1002, .to 700)] [1, 4] [32, 9, 10, 11] [700] [((((Cn.allSt l next i).1).length + ((Cn.oneR ((l.getD i ([], [], 0)).1) ((l.getD i ([], [], 0)).2.1) ((l.getD i ([], [], 0)).2.2) (0 : Int) ((Cn.allSt l next i).2)).1).length) * 24 ≤ 140737488355328)] ?_ (Fb (Ft (Tq hcx [] [20] [] [] [Fit ((i : Int) + 1)] ?_ (Lr (i + 1) ?_ ?_ (Ex 20 (congrArg AV.int (show ((i : Int) + 1) = ((i + 1) : Int) from (by first | rfl | omega | (simp; done)))) Eb) Hb))))))
      ·
       refine ap ?_ az
       omega
      ·
       refine ap ?_ az
       omega
      ·
       exact ⟨by omega, Cn.al_step (by omega) hI2 h32_⟩
      ·
       show l.length - (i + 1) < l.length - i
       omega
    ·
     exact Ze (Fe (Fe (Fs (Ft (Sz hcx [] [4, 5, 6] [21, 1, 18, 19, 20] [] (Zr (Fn [(700, .frz)] [4, 5, 6] (Rv hcx (congrArg AV.tup (consE (congrArg AV.intss (show (Cn.allSt l next i).1 = (Cn.allR l next).1 from (by first | (rw [hr]; done) | (rw [hr]; rfl) | (rw [Cn.al_end (by omega) hI2]; done)))) (consE (congrArg AV.int (show (Cn.allSt l next i).2 = (Cn.allR l next).2.1 from (by first | (rw [hr]; done) | (rw [hr]; rfl) | (rw [Cn.al_end (by omega) hI2]; done)))) (consE (congrArg AV.int (show 0 = (Cn.allR l next).2.2 from (by first | (rw [hr]; done) | (rw [hr]; rfl) | (rw [Cn.al_end (by omega) hI2]; done)))) rfl)))) [] rfl))))))))
 ·
  cases hσ
end Go.Proofs.YtkkapbnopmmmjaaGreatDoor.En
namespace Go.Proofs.YtkkapbnopmmmjaaGreatDoor.En
open Go Go.RowKit
def tyLv18 : List (Nat × TD) := [(3, ⟨1, false, [.int .i64 0], [], none, 8, false, 1, 1⟩),
  (22, ⟨1, false, [.slice none 0 0], [], some 3, 24, false, 0, 3⟩),
  (24, ⟨3, true, [.slice none 0 0, .slice none 0 0, .int .i64 0], [(0, 22), (1, 22), (2, 3)], none, 56, false, 0, 5⟩),
  (26, ⟨1, false, [.int .i64 0], [], none, 8, false, 1, 1⟩),
  (30, ⟨1, false, [.slice none 0 0], [], some 22, 24, false, 0, 0⟩),
  (44, ⟨1, false, [.slice none 0 0], [], some 24, 24, false, 0, 0⟩)]
theorem tyLv18_ok : AllTy Tryz.prog tyLv18 := ⟨⟨by kernel_rfl, by kernel_rfl, by kernel_rfl⟩, ⟨by kernel_rfl, by kernel_rfl, by kernel_rfl⟩, ⟨by kernel_rfl, by kernel_rfl, by kernel_rfl⟩, ⟨by kernel_rfl, by kernel_rfl, by kernel_rfl⟩, ⟨by kernel_rfl, by kernel_rfl, by kernel_rfl⟩, ⟨by kernel_rfl, by kernel_rfl, by kernel_rfl⟩, trivial⟩
def cx_rInts15 : Cx := ⟨tyLv18, [], true⟩
theorem cx_rInts15_ok : CxOk Tryz.prog cx_rInts15 := cx_ok tyLv18_ok trivial
def rInts15_σ : CtF
  | [.im (.ls (.ints a)), .im (.ls (.ints b))], [] => some (a.length ≤ maxLen, .bool (decide (a = b)), [])
  | _, _ => none
theorem rInts15_sound : Sound Tryz.prog 47 rInts15_σ := by
 refine Sw (cx := cx_rInts15) Tryz.f47 Tryz.func47 ?_
 intro wW wO wβ G0 args os p r outs hσ hp
 have hcx := cx_rInts15_ok
 have hmx : Tryz.prog.follows .mixedOrders = true := by kernel_rfl
 unfold rInts15_σ at hσ
 split at hσ
 ·
  rename_i a b
  cases hσ
  refine ⟨by kernel_rfl, ?_⟩
  have hm1 := hp
  unfold maxLen at hm1
  refine Sz hcx [] [] [] [] (Zs (Sz hcx [] [10] [] [] (Zi (b := (a.length : Int) != (b.length : Int)) (fun h0 => ?_) fun h0 => ?_)))
  ·
   replace h0 := bne_iff_ne.1 h0
   exact Sz hcx [] [4] [10, 0, 1] [] (Zr (Fr (Rv hcx (congrArg AV.bool (show false = decide (a = b) from (by first | exact (Cn.eqL_len (by omega)).symm | exact (Cn.eqL_no (i := i) hq).symm | exact (Cn.eqL_yes hab (by omega) hok).symm))) [] rfl)))
  ·
   replace h0 := bneF h0
   refine Zk (Ft (Zs (Sz hcx [] [5] [10] [] (Zb (Lp (X := Nat) (fun x0 => x0 ≤ a.length ∧ ∀ j, j < x0 → a.getD j 0 = b.getD j 0) (fun x0 => ([(0, .ints a), (1, .ints b), (5, .int (x0 : Int))], [])) (fun x0 => a.length - x0) (0) ?_ (Ex 5 (congrArg AV.int (show 0 = (0 : Int) from (by first | rfl | omega | (simp; done)))) Eb) Hb fun i hI => ?_)))))
   ·
    exact ⟨Nat.zero_le _, fun j hj => by omega⟩
   ·
    try dsimp only at hI
    obtain ⟨hk, hok⟩ := hI
    have hab : a.length = b.length := by omega
    refine Zs (Sz hcx [] [14] [] [] (Zj (p := ((i : Int) < (a.length : Int))) (fun h1 => ?_) fun h1 => ?_))
    ·
     refine Zk (Ft (Zs (Zb (Sd hcx hmx [0, 0, 3, 7, 0, 0, 48, 112, 255] [] [25] [14] [] [((0 : Int) ≤ (i : Int) ∧ (i : Int) < (a.length : Int)), ((0 : Int) ≤ (i : Int) ∧ (i : Int) < (b.length : Int))] ?_ (Zi (b := (a.getD i 0) != (b.getD i 0)) (fun h2 => ?_) fun h2 => ?_)))))
     ·
      refine ap ?_ (ap ?_ az) <;>
       omega
     ·
      replace h2 := bne_iff_ne.1 h2
      have hq := h2
      exact Sz hcx [] [4] [25, 0, 1, 5] [] (Zr (Fk (Fr (Fr (Fk (Fr (Rv hcx (congrArg AV.bool (show false = decide (a = b) from (by first | exact (Cn.eqL_len (by omega)).symm | exact (Cn.eqL_no (i := i) hq).symm | exact (Cn.eqL_yes hab (by omega) hok).symm))) [] rfl)))))))
     ·
      replace h2 := bneF h2
      have hq : a.getD i 0 = b.getD i 0 := by have := h2; omega
      refine Zk (Fb (Ft (Tq hcx [] [5] [25] [] [Fit ((i : Int) + 1)] ?_ (Lr (i + 1) ?_ ?_ (Ex 5 (congrArg AV.int (show ((i : Int) + 1) = ((i + 1) : Int) from (by first | rfl | omega | (simp; done)))) Eb) Hb))))
      ·
       refine ap ?_ az
       omega
      ·
       exact ⟨by omega, fun j hj => by rcases (by omega : j < i ∨ j = i) with h | rfl; exact hok j h; exact hq⟩
      ·
       show a.length - (i + 1) < a.length - i
       omega
    ·
     exact Ze (Fe (Fe (Fs (Ft (Sz hcx [] [4] [14, 0, 1, 5] [] (Zr (Rv hcx (congrArg AV.bool (show true = decide (a = b) from (by first | exact (Cn.eqL_len (by omega)).symm | exact (Cn.eqL_no (i := i) hq).symm | exact (Cn.eqL_yes hab (by omega) hok).symm))) [] rfl)))))))
 ·
  cases hσ
def cx_rClauses15 : Cx := ⟨tyLv18, [(47, (coeF [.ld (.ints []), .ld (.ints [])] rInts15_σ))], true⟩
theorem cx_rClauses15_ok : CxOk Tryz.prog cx_rClauses15 := cx_ok tyLv18_ok ⟨(rInts15_sound.coe [.ld (.ints []), .ld (.ints [])] rfl), trivial⟩
def rClauses15_σ : CtF
  | [.im (.ls (.intss a)), .im (.ls (.intss b))], [] => some (a.length ≤ maxLen ∧ ∀ x ∈ a, x.length ≤ maxLen, .bool (decide (a = b)), [])
  | _, _ => none
theorem rClauses15_sound : Sound Tryz.prog 14 rClauses15_σ := by
 refine Sw (cx := cx_rClauses15) Tryz.f14 Tryz.func14 ?_
 intro wW wO wβ G0 args os p r outs hσ hp
 have hcx := cx_rClauses15_ok
 have hmx : Tryz.prog.follows .mixedOrders = true := by kernel_rfl
 unfold rClauses15_σ at hσ
 split at hσ
 ·
  rename_i a b
  cases hσ
  refine ⟨by kernel_rfl, ?_⟩
  obtain ⟨hm1, hm2⟩ := hp
  have hm3 := hm1
  unfold maxLen at hm3
  have hb := fun i (h : i < a.length) => hm2 _ (Cn.getD_memL (d := ([] : List Int)) (k := i) h)
  refine Sz hcx [] [] [] [] (Zs (Sz hcx [] [10] [] [] (Zi (b := (a.length : Int) != (b.length : Int)) (fun h0 => ?_) fun h0 => ?_)))
  ·
   replace h0 := bne_iff_ne.1 h0
   exact Sz hcx [] [4] [10, 0, 1] [] (Zr (Fr (Rv hcx (congrArg AV.bool (show false = decide (a = b) from (by first | exact (Cn.eqL_len (by omega)).symm | exact (Cn.eqL_no (i := i) hq).symm | exact (Cn.eqL_yes hab (by omega) hok).symm))) [] rfl)))
  ·
   replace h0 := bneF h0
   refine Zk (Ft (Zs (Sz hcx [] [5] [10] [] (Zb (Lp (X := Nat) (fun x0 => x0 ≤ a.length ∧ ∀ j, j < x0 → a.getD j [] = b.getD j []) (fun x0 => ([(0, .intss a), (1, .intss b), (5, .int (x0 : Int))], [])) (fun x0 => a.length - x0) (0) ?_ (Ex 5 (congrArg AV.int (show 0 = (0 : Int) from (by first | rfl | omega | (simp; done)))) Eb) Hb fun i hI => ?_)))))
   ·
    exact ⟨Nat.zero_le _, fun j hj => by omega⟩
   ·
    try dsimp only at hI
    obtain ⟨hk, hok⟩ := hI
    have hab : a.length = b.length := by omega
    have hbi := hb i
    refine Zs (Sz hcx [] [14] [] [] (Zj (p := ((i : Int) < (a.length : Int))) (fun h1 => ?_) fun h1 => ?_))
    ·
     refine Zk (Ft (Zs (Zb (Sd hcx hmx [0, 0, 3, 7, 0, 0, 48, 112, 255, 511] [] [26] [14] [] [((0 : Int) ≤ (i : Int) ∧ (i : Int) < (a.length : Int)), ((0 : Int) ≤ (i : Int) ∧ (i : Int) < (b.length : Int)), ((a.getD i []).length ≤ maxLen)] ?_ (Zi (b := !(decide ((a.getD i []) = (b.getD i [])))) (fun h2 => ?_) fun h2 => ?_)))))
     ·
      refine ap ?_ (ap ?_ (ap ?_ az)) <;>
       omega
     ·
      have hq := Cn.dcT h2
      exact Sz hcx [] [4] [26, 0, 1, 5] [] (Zr (Fk (Fr (Fr (Fk (Fr (Rv hcx (congrArg AV.bool (show false = decide (a = b) from (by first | exact (Cn.eqL_len (by omega)).symm | exact (Cn.eqL_no (i := i) hq).symm | exact (Cn.eqL_yes hab (by omega) hok).symm))) [] rfl)))))))
     ·
      have hq := Cn.dcF h2
      refine Zk (Fb (Ft (Tq hcx [] [5] [26] [] [Fit ((i : Int) + 1)] ?_ (Lr (i + 1) ?_ ?_ (Ex 5 (congrArg AV.int (show ((i : Int) + 1) = ((i + 1) : Int) from (by first | rfl | omega | (simp; done)))) Eb) Hb))))
      ·
       refine ap ?_ az
       omega
      ·
       exact ⟨by omega, fun j hj => by rcases (by omega : j < i ∨ j = i) with h | rfl; exact hok j h; exact hq⟩
      ·
       show a.length - (i + 1) < a.length - i
       omega
    ·
     exact Ze (Fe (Fe (Fs (Ft (Sz hcx [] [4] [14, 0, 1, 5] [] (Zr (Rv hcx (congrArg AV.bool (show true = decide (a = b) from (by first | exact (Cn.eqL_len (by omega)).symm | exact (Cn.eqL_no (i := i) hq).symm | exact (Cn.eqL_yes hab (by omega) hok).symm))) [] rfl)))))))
 ·
  cases hσ
def cx_lHas : Cx := ⟨tyLv18, [], true⟩
theorem cx_lHas_ok : CxOk Tryz.prog cx_lHas := cx_ok tyLv18_ok trivial
def lHas_σ : CtF
  | [.im (.ls (.ints l)), .im (.val (.int .i64 n))], [] => some (l.length ≤ maxLen, .bool (l.contains n), [])
  | _, _ => none
theorem lHas_sound : Sound Tryz.prog 32 lHas_σ := by
 refine Sw (cx := cx_lHas) Tryz.f32 Tryz.func32 ?_
 intro wW wO wβ G0 args os p r outs hσ hp
 have hcx := cx_lHas_ok
 unfold lHas_σ at hσ
 split at hσ
 ·
  rename_i l n
  cases hσ
  refine ⟨by kernel_rfl, ?_⟩
  have hm1 := hp
  unfold maxLen at hm1
  refine Sz hcx [] [] [] [] (Zs (Sz hcx [] [5] [] [] (Zb (Lp (X := Nat) (fun x0 => x0 ≤ l.length ∧ ∀ j, j < x0 → l.getD j 0 ≠ n) (fun x0 => ([(0, .ints l), (1, .int n), (5, .int (x0 : Int))], [])) (fun x0 => l.length - x0) (0) ?_ (Ex 5 (congrArg AV.int (show 0 = (0 : Int) from (by first | rfl | omega | (simp; done)))) Eb) Hb fun i hI => ?_))))
  ·
   exact ⟨Nat.zero_le _, fun j hj => by omega⟩
  ·
   try dsimp only at hI
   obtain ⟨hk, hok⟩ := hI
   refine Zs (Sz hcx [] [9] [] [] (Zj (p := ((i : Int) < (l.length : Int))) (fun h0 => ?_) fun h0 => ?_))
   ·
    refine Zk (Ft (Zs (Zb (Sq hcx [] [17] [9] [] [((0 : Int) ≤ (i : Int) ∧ (i : Int) < (l.length : Int))] ?_ (Zi (b := (l.getD i 0) == n) (fun h1 => ?_) fun h1 => ?_)))))
    ·
     refine ap ?_ az
     omega
    ·
     replace h1 := eq_of_beq h1
     have hq := h1
     exact Sz hcx [] [4] [17, 0, 1, 5] [] (Zr (Fk (Fr (Fr (Fk (Fr (Rv hcx (congrArg AV.bool (show true = (l.contains n) from (by first | exact (Cn.has_yes (i := i) (by omega) hq).symm | exact (Cn.has_no (by omega) hok).symm))) [] rfl)))))))
    ·
     replace h1 := neB h1
     have hq := h1
     refine Zk (Fb (Ft (Tq hcx [] [5] [17] [] [Fit ((i : Int) + 1)] ?_ (Lr (i + 1) ?_ ?_ (Ex 5 (congrArg AV.int (show ((i : Int) + 1) = ((i + 1) : Int) from (by first | rfl | omega | (simp; done)))) Eb) Hb))))
     ·
      refine ap ?_ az
      omega
     ·
      exact ⟨by omega, fun j hj => by rcases (by omega : j < i ∨ j = i) with h | rfl; exact hok j h; exact hq⟩
     ·
      show l.length - (i + 1) < l.length - i
      omega
   ·
    exact Ze (Fe (Fe (Fs (Ft (Sz hcx [] [4] [9, 0, 1, 5] [] (Zr (Rv hcx (congrArg AV.bool (show false = (l.contains n) from (by first | exact (Cn.has_yes (i := i) (by omega) hq).symm | exact (Cn.has_no (by omega) hok).symm))) [] rfl)))))))
 ·
  cases hσ
attribute [local irreducible] Cn.howR Cn.oneR Cn.allR
abbrev lvC1 : Bool := ((((Cn.howR [1, 1] [1, 2] (1 : Int)).1) == 1) && (((Cn.howR [1, 1] [1, 2] (1 : Int)).2) == 0))
abbrev lvC2 : Bool := (lvC1 && (((Cn.howR [1, 1] [1, 2] (2 : Int)).1) == 2))
abbrev lvC3 : Bool := (lvC2 && (((Cn.howR [1, 1] [1, 2] (2 : Int)).2) == 0))
abbrev lvC4 : Bool := (lvC3 && (((Cn.howR [2, 3, 4] [1, 2, 3] (5 : Int)).1) == 4))
abbrev lvC5 : Bool := (lvC4 && (((Cn.howR [2, 3, 4] [1, 2, 3] (5 : Int)).2) == 0))
abbrev lvC6 : Bool := (lvC5 && ((((((((((Cn.oneR [1, 1] [1, 2] (1 : Int) (9 : Int) (10 : Int)).1).length : Int) == 1) && (((((Cn.oneR [1, 1] [1, 2] (1 : Int) (9 : Int) (10 : Int)).1).getD 0 []).length : Int) == 3)) && ((((Cn.oneR [1, 1] [1, 2] (1 : Int) (9 : Int) (10 : Int)).1).getD 0 []).contains (-9))) && ((((Cn.oneR [1, 1] [1, 2] (1 : Int) (9 : Int) (10 : Int)).1).getD 0 []).contains (1 : Int))) && ((((Cn.oneR [1, 1] [1, 2] (1 : Int) (9 : Int) (10 : Int)).1).getD 0 []).contains (2 : Int))) && (((Cn.oneR [1, 1] [1, 2] (1 : Int) (9 : Int) (10 : Int)).2.1) == 10)) && (((Cn.oneR [1, 1] [1, 2] (1 : Int) (9 : Int) (10 : Int)).2.2) == 0)))
abbrev lvC7 : Bool := (lvC6 && (decide (((Cn.oneR ([] : List (Int)) ([] : List (Int)) (1 : Int) (-4) (10 : Int)).1) = [[4]])))
abbrev lvC8 : Bool := (lvC7 && (((Cn.oneR ([] : List (Int)) ([] : List (Int)) (1 : Int) (-4) (10 : Int)).2.2) == 0))
abbrev lvC9 : Bool := (lvC8 && (((Cn.oneR [1, 1] [1, 2] (1 : Int) (10 : Int) (10 : Int)).2.2) == 140))
abbrev lvC10 : Bool := (lvC9 && ((((Cn.allR [([], [], 0), ([1, 1], [1, 2], 1)] (3 : Int)).1).length : Int) == 1))
def cx_live18 : Cx := ⟨tyLv18, [(10, (coeF [.agg [.ld (.ints []), .ld (.ints []), .id]] eHow_σ)), (12, (coeF [.agg [.ld (.ints []), .ld (.ints []), .id], .id, .id] eOne_σ)), (23, (coeF [.ld (.lins []), .id] eAll_σ)), (14, (coeF [.ld (.intss []), .ld (.intss [])] rClauses15_σ)), (32, (coeF [.ld (.ints []), .id] lHas_σ))], true⟩
theorem cx_live18_ok : CxOk Tryz.prog cx_live18 := cx_ok tyLv18_ok ⟨(eHow_sound.coe [.agg [.ld (.ints []), .ld (.ints []), .id]] rfl), (eOne_sound.coe [.agg [.ld (.ints []), .ld (.ints []), .id], .id, .id] rfl), (eAll_sound.coe [.ld (.lins []), .id] rfl), (rClauses15_sound.coe [.ld (.intss []), .ld (.intss [])] rfl), (lHas_sound.coe [.ld (.ints []), .id] rfl), trivial⟩
def live18_σ : CtF
  | [], [] => some (True, .bool true, [])
  | _, _ => none
theorem live18_sound : Sound Tryz.prog 9 live18_σ := by
 refine Sw (cx := cx_live18) Tryz.f9 Tryz.func9 ?_
 intro wW wO wβ G0 args os p r outs hσ hp
 have hcx := cx_live18_ok
 unfold live18_σ at hσ
 split at hσ
 ·
  cases hσ
  refine ⟨by kernel_rfl, ?_⟩
  have h1 := Cn.lv18_1
  have h2 := Cn.lv18_2
  have h3 := Cn.lv18_3
  have h4 := Cn.lv18_4
  have h5 := Cn.lv18_5
  have h6 := Cn.lv18_6
  have h7 := Cn.lv18_7
  refine Sz hcx [] [] [] [] (Sz hcx [(1003, .to 601)] [1] [] [] (Sz hcx [(1003, .to 602)] [2] [] [] (Sz hcx [(1003, .to 603)] [3] [] [] (Sq hcx [] [4, 5] [] [] [(True)] ?_ (Sq hcx [] [6, 7] [2] [602] [(True)] ?_ (Sq hcx [] [8, 9] [3] [603] [(True)] ?_ (Sq hcx [] [10, 11, 12] [] [] [(Fit (9 : Int) ∧ Fit (10 : Int))] ?_ (Sq hcx [] [13, 15] [] [] [(Fit (-4) ∧ Fit (10 : Int))] ?_ (Sq hcx [] [18] [] [] [(Fit (10 : Int) ∧ Fit (10 : Int))] ?_ (Sq hcx [] [19, 21] [1] [601] [([([], [], 0), ([1, 1], [1, 2], 1)].length ≤ 100 ∧ Fit (3 : Int))] ?_ (Sq hcx [] [22] [10, 11, 12] [] [(((((Cn.oneR [1, 1] [1, 2] (1 : Int) (9 : Int) (10 : Int)).1).length : Int) == 1) = true → (((((Cn.oneR [1, 1] [1, 2] (1 : Int) (9 : Int) (10 : Int)).1).length : Int) == 1) = true)), (((((Cn.oneR [1, 1] [1, 2] (1 : Int) (9 : Int) (10 : Int)).1).length : Int) == 1) = true → ((0 : Int) ≤ 0 ∧ 0 < (((Cn.oneR [1, 1] [1, 2] (1 : Int) (9 : Int) (10 : Int)).1).length : Int))), (((((Cn.oneR [1, 1] [1, 2] (1 : Int) (9 : Int) (10 : Int)).1).length : Int) == 1) = true → (((((Cn.oneR [1, 1] [1, 2] (1 : Int) (9 : Int) (10 : Int)).1).length : Int) == 1) = true)), (((((Cn.oneR [1, 1] [1, 2] (1 : Int) (9 : Int) (10 : Int)).1).length : Int) == 1) = true → (((((Cn.oneR [1, 1] [1, 2] (1 : Int) (9 : Int) (10 : Int)).1).length : Int) == 1) = true)), (((((Cn.oneR [1, 1] [1, 2] (1 : Int) (9 : Int) (10 : Int)).1).length : Int) == 1) = true → (((((Cn.oneR [1, 1] [1, 2] (1 : Int) (9 : Int) (10 : Int)).1).length : Int) == 1) = true)), (((((Cn.oneR [1, 1] [1, 2] (1 : Int) (9 : Int) (10 : Int)).1).length : Int) == 1) = true → ((((Cn.oneR [1, 1] [1, 2] (1 : Int) (9 : Int) (10 : Int)).1).length : Int) == 1) = true), ((((((Cn.oneR [1, 1] [1, 2] (1 : Int) (9 : Int) (10 : Int)).1).length : Int) == 1) && (((((Cn.oneR [1, 1] [1, 2] (1 : Int) (9 : Int) (10 : Int)).1).getD 0 []).length : Int) == 3)) = true → ((((((Cn.oneR [1, 1] [1, 2] (1 : Int) (9 : Int) (10 : Int)).1).length : Int) == 1) && (((((Cn.oneR [1, 1] [1, 2] (1 : Int) (9 : Int) (10 : Int)).1).getD 0 []).length : Int) == 3)) = true)), ((((((Cn.oneR [1, 1] [1, 2] (1 : Int) (9 : Int) (10 : Int)).1).length : Int) == 1) && (((((Cn.oneR [1, 1] [1, 2] (1 : Int) (9 : Int) (10 : Int)).1).getD 0 []).length : Int) == 3)) = true → ((0 : Int) ≤ 0 ∧ 0 < (((Cn.oneR [1, 1] [1, 2] (1 : Int) (9 : Int) (10 : Int)).1).length : Int))), ((((((Cn.oneR [1, 1] [1, 2] (1 : Int) (9 : Int) (10 : Int)).1).length : Int) == 1) && (((((Cn.oneR [1, 1] [1, 2] (1 : Int) (9 : Int) (10 : Int)).1).getD 0 []).length : Int) == 3)) = true → ((((((Cn.oneR [1, 1] [1, 2] (1 : Int) (9 : Int) (10 : Int)).1).length : Int) == 1) && (((((Cn.oneR [1, 1] [1, 2] (1 : Int) (9 : Int) (10 : Int)).1).getD 0 []).length : Int) == 3)) = true)), ((((((Cn.oneR [1, 1] [1, 2] (1 : Int) (9 : Int) (10 : Int)).1).length : Int) == 1) && (((((Cn.oneR [1, 1] [1, 2] (1 : Int) (9 : Int) (10 : Int)).1).getD 0 []).length : Int) == 3)) = true → ((((((Cn.oneR [1, 1] [1, 2] (1 : Int) (9 : Int) (10 : Int)).1).length : Int) == 1) && (((((Cn.oneR [1, 1] [1, 2] (1 : Int) (9 : Int) (10 : Int)).1).getD 0 []).length : Int) == 3)) = true)), ((((((Cn.oneR [1, 1] [1, 2] (1 : Int) (9 : Int) (10 : Int)).1).length : Int) == 1) && (((((Cn.oneR [1, 1] [1, 2] (1 : Int) (9 : Int) (10 : Int)).1).getD 0 []).length : Int) == 3)) = true → ((((Cn.oneR [1, 1] [1, 2] (1 : Int) (9 : Int) (10 : Int)).1).getD 0 []).length ≤ maxLen)), ((((((Cn.oneR [1, 1] [1, 2] (1 : Int) (9 : Int) (10 : Int)).1).length : Int) == 1) && (((((Cn.oneR [1, 1] [1, 2] (1 : Int) (9 : Int) (10 : Int)).1).getD 0 []).length : Int) == 3)) = true → (((((Cn.oneR [1, 1] [1, 2] (1 : Int) (9 : Int) (10 : Int)).1).length : Int) == 1) && (((((Cn.oneR [1, 1] [1, 2] (1 : Int) (9 : Int) (10 : Int)).1).getD 0 []).length : Int) == 3)) = true), (((((((Cn.oneR [1, 1] [1, 2] (1 : Int) (9 : Int) (10 : Int)).1).length : Int) == 1) && (((((Cn.oneR [1, 1] [1, 2] (1 : Int) (9 : Int) (10 : Int)).1).getD 0 []).length : Int) == 3)) && ((((Cn.oneR [1, 1] [1, 2] (1 : Int) (9 : Int) (10 : Int)).1).getD 0 []).contains (-9))) = true → (((((((Cn.oneR [1, 1] [1, 2] (1 : Int) (9 : Int) (10 : Int)).1).length : Int) == 1) && (((((Cn.oneR [1, 1] [1, 2] (1 : Int) (9 : Int) (10 : Int)).1).getD 0 []).length : Int) == 3)) && ((((Cn.oneR [1, 1] [1, 2] (1 : Int) (9 : Int) (10 : Int)).1).getD 0 []).contains (-9))) = true)), (((((((Cn.oneR [1, 1] [1, 2] (1 : Int) (9 : Int) (10 : Int)).1).length : Int) == 1) && (((((Cn.oneR [1, 1] [1, 2] (1 : Int) (9 : Int) (10 : Int)).1).getD 0 []).length : Int) == 3)) && ((((Cn.oneR [1, 1] [1, 2] (1 : Int) (9 : Int) (10 : Int)).1).getD 0 []).contains (-9))) = true → ((0 : Int) ≤ 0 ∧ 0 < (((Cn.oneR [1, 1] [1, 2] (1 : Int) (9 : Int) (10 : Int)).1).length : Int))), (((((((Cn.oneR [1, 1] [1, 2] (1 : Int) (9 : Int) (10 : Int)).1).length : Int) == 1) && (((((Cn.oneR [1, 1] [1, 2] (1 : Int) (9 : Int) (10 : Int)).1).getD 0 []).length : Int) == 3)) && ((((Cn.oneR [1, 1] [1, 2] (1 : Int) (9 : Int) (10 : Int)).1).getD 0 []).contains (-9))) = true → (((((((Cn.oneR [1, 1] [1, 2] (1 : Int) (9 : Int) (10 : Int)).1).length : Int) == 1) && (((((Cn.oneR [1, 1] [1, 2] (1 : Int) (9 : Int) (10 : Int)).1).getD 0 []).length : Int) == 3)) && ((((Cn.oneR [1, 1] [1, 2] (1 : Int) (9 : Int) (10 : Int)).1).getD 0 []).contains (-9))) = true)), (((((((Cn.oneR [1, 1] [1, 2] (1 : Int) (9 : Int) (10 : Int)).1).length : Int) == 1) && (((((Cn.oneR [1, 1] [1, 2] (1 : Int) (9 : Int) (10 : Int)).1).getD 0 []).length : Int) == 3)) && ((((Cn.oneR [1, 1] [1, 2] (1 : Int) (9 : Int) (10 : Int)).1).getD 0 []).contains (-9))) = true → (((((((Cn.oneR [1, 1] [1, 2] (1 : Int) (9 : Int) (10 : Int)).1).length : Int) == 1) && (((((Cn.oneR [1, 1] [1, 2] (1 : Int) (9 : Int) (10 : Int)).1).getD 0 []).length : Int) == 3)) && ((((Cn.oneR [1, 1] [1, 2] (1 : Int) (9 : Int) (10 : Int)).1).getD 0 []).contains (-9))) = true)), (((((((Cn.oneR [1, 1] [1, 2] (1 : Int) (9 : Int) (10 : Int)).1).length : Int) == 1) && (((((Cn.oneR [1, 1] [1, 2] (1 : Int) (9 : Int) (10 : Int)).1).getD 0 []).length : Int) == 3)) && ((((Cn.oneR [1, 1] [1, 2] (1 : Int) (9 : Int) (10 : Int)).1).getD 0 []).contains (-9))) = true → ((((Cn.oneR [1, 1] [1, 2] (1 : Int) (9 : Int) (10 : Int)).1).getD 0 []).length ≤ maxLen)), (((((((Cn.oneR [1, 1] [1, 2] (1 : Int) (9 : Int) (10 : Int)).1).length : Int) == 1) && (((((Cn.oneR [1, 1] [1, 2] (1 : Int) (9 : Int) (10 : Int)).1).getD 0 []).length : Int) == 3)) && ((((Cn.oneR [1, 1] [1, 2] (1 : Int) (9 : Int) (10 : Int)).1).getD 0 []).contains (-9))) = true → ((((((Cn.oneR [1, 1] [1, 2] (1 : Int) (9 : Int) (10 : Int)).1).length : Int) == 1) && (((((Cn.oneR [1, 1] [1, 2] (1 : Int) (9 : Int) (10 : Int)).1).getD 0 []).length : Int) == 3)) && ((((Cn.oneR [1, 1] [1, 2] (1 : Int) (9 : Int) (10 : Int)).1).getD 0 []).contains (-9))) = true), ((((((((Cn.oneR [1, 1] [1, 2] (1 : Int) (9 : Int) (10 : Int)).1).length : Int) == 1) && (((((Cn.oneR [1, 1] [1, 2] (1 : Int) (9 : Int) (10 : Int)).1).getD 0 []).length : Int) == 3)) && ((((Cn.oneR [1, 1] [1, 2] (1 : Int) (9 : Int) (10 : Int)).1).getD 0 []).contains (-9))) && ((((Cn.oneR [1, 1] [1, 2] (1 : Int) (9 : Int) (10 : Int)).1).getD 0 []).contains (1 : Int))) = true → ((((((((Cn.oneR [1, 1] [1, 2] (1 : Int) (9 : Int) (10 : Int)).1).length : Int) == 1) && (((((Cn.oneR [1, 1] [1, 2] (1 : Int) (9 : Int) (10 : Int)).1).getD 0 []).length : Int) == 3)) && ((((Cn.oneR [1, 1] [1, 2] (1 : Int) (9 : Int) (10 : Int)).1).getD 0 []).contains (-9))) && ((((Cn.oneR [1, 1] [1, 2] (1 : Int) (9 : Int) (10 : Int)).1).getD 0 []).contains (1 : Int))) = true)), ((((((((Cn.oneR [1, 1] [1, 2] (1 : Int) (9 : Int) (10 : Int)).1).length : Int) == 1) && (((((Cn.oneR [1, 1] [1, 2] (1 : Int) (9 : Int) (10 : Int)).1).getD 0 []).length : Int) == 3)) && ((((Cn.oneR [1, 1] [1, 2] (1 : Int) (9 : Int) (10 : Int)).1).getD 0 []).contains (-9))) && ((((Cn.oneR [1, 1] [1, 2] (1 : Int) (9 : Int) (10 : Int)).1).getD 0 []).contains (1 : Int))) = true → ((0 : Int) ≤ 0 ∧ 0 < (((Cn.oneR [1, 1] [1, 2] (1 : Int) (9 : Int) (10 : Int)).1).length : Int))), ((((((((Cn.oneR [1, 1] [1, 2] (1 : Int) (9 : Int) (10 : Int)).1).length : Int) == 1) && (((((Cn.oneR [1, 1] [1, 2] (1 : Int) (9 : Int) (10 : Int)).1).getD 0 []).length : Int) == 3)) && ((((Cn.oneR [1, 1] [1, 2] (1 : Int) (9 : Int) (10 : Int)).1).getD 0 []).contains (-9))) && ((((Cn.oneR [1, 1] [1, 2] (1 : Int) (9 : Int) (10 : Int)).1).getD 0 []).contains (1 : Int))) = true → ((((((((Cn.oneR [1, 1] [1, 2] (1 : Int) (9 : Int) (10 : Int)).1).length : Int) == 1) && (((((Cn.oneR [1, 1] [1, 2] (1 : Int) (9 : Int) (10 : Int)).1).getD 0 []).length : Int) == 3)) && ((((Cn.oneR [1, 1] [1, 2] (1 : Int) (9 : Int) (10 : Int)).1).getD 0 []).contains (-9))) && ((((Cn.oneR [1, 1] [1, 2] (1 : Int) (9 : Int) (10 : Int)).1).getD 0 []).contains (1 : Int))) = true)), ((((((((Cn.oneR [1, 1] [1, 2] (1 : Int) (9 : Int) (10 : Int)).1).length : Int) == 1) && (((((Cn.oneR [1, 1] [1, 2] (1 : Int) (9 : Int) (10 : Int)).1).getD 0 []).length : Int) == 3)) && ((((Cn.oneR [1, 1] [1, 2] (1 : Int) (9 : Int) (10 : Int)).1).getD 0 []).contains (-9))) && ((((Cn.oneR [1, 1] [1, 2] (1 : Int) (9 : Int) (10 : Int)).1).getD 0 []).contains (1 : Int))) = true → ((((((((Cn.oneR [1, 1] [1, 2] (1 : Int) (9 : Int) (10 : Int)).1).length : Int) == 1) && (((((Cn.oneR [1, 1] [1, 2] (1 : Int) (9 : Int) (10 : Int)).1).getD 0 []).length : Int) == 3)) && ((((Cn.oneR [1, 1] [1, 2] (1 : Int) (9 : Int) (10 : Int)).1).getD 0 []).contains (-9))) && ((((Cn.oneR [1, 1] [1, 2] (1 : Int) (9 : Int) (10 : Int)).1).getD 0 []).contains (1 : Int))) = true)), ((((((((Cn.oneR [1, 1] [1, 2] (1 : Int) (9 : Int) (10 : Int)).1).length : Int) == 1) && (((((Cn.oneR [1, 1] [1, 2] (1 : Int) (9 : Int) (10 : Int)).1).getD 0 []).length : Int) == 3)) && ((((Cn.oneR [1, 1] [1, 2] (1 : Int) (9 : Int) (10 : Int)).1).getD 0 []).contains (-9))) && ((((Cn.oneR [1, 1] [1, 2] (1 : Int) (9 : Int) (10 : Int)).1).getD 0 []).contains (1 : Int))) = true → ((((Cn.oneR [1, 1] [1, 2] (1 : Int) (9 : Int) (10 : Int)).1).getD 0 []).length ≤ maxLen)), ((((((((Cn.oneR [1, 1] [1, 2] (1 : Int) (9 : Int) (10 : Int)).1).length : Int) == 1) && (((((Cn.oneR [1, 1] [1, 2] (1 : Int) (9 : Int) (10 : Int)).1).getD 0 []).length : Int) == 3)) && ((((Cn.oneR [1, 1] [1, 2] (1 : Int) (9 : Int) (10 : Int)).1).getD 0 []).contains (-9))) && ((((Cn.oneR [1, 1] [1, 2] (1 : Int) (9 : Int) (10 : Int)).1).getD 0 []).contains (1 : Int))) = true → (((((((Cn.oneR [1, 1] [1, 2] (1 : Int) (9 : Int) (10 : Int)).1).length : Int) == 1) && (((((Cn.oneR [1, 1] [1, 2] (1 : Int) (9 : Int) (10 : Int)).1).getD 0 []).length : Int) == 3)) && ((((Cn.oneR [1, 1] [1, 2] (1 : Int) (9 : Int) (10 : Int)).1).getD 0 []).contains (-9))) && ((((Cn.oneR [1, 1] [1, 2] (1 : Int) (9 : Int) (10 : Int)).1).getD 0 []).contains (1 : Int))) = true), (((((((((Cn.oneR [1, 1] [1, 2] (1 : Int) (9 : Int) (10 : Int)).1).length : Int) == 1) && (((((Cn.oneR [1, 1] [1, 2] (1 : Int) (9 : Int) (10 : Int)).1).getD 0 []).length : Int) == 3)) && ((((Cn.oneR [1, 1] [1, 2] (1 : Int) (9 : Int) (10 : Int)).1).getD 0 []).contains (-9))) && ((((Cn.oneR [1, 1] [1, 2] (1 : Int) (9 : Int) (10 : Int)).1).getD 0 []).contains (1 : Int))) && ((((Cn.oneR [1, 1] [1, 2] (1 : Int) (9 : Int) (10 : Int)).1).getD 0 []).contains (2 : Int))) = true → (((((((((Cn.oneR [1, 1] [1, 2] (1 : Int) (9 : Int) (10 : Int)).1).length : Int) == 1) && (((((Cn.oneR [1, 1] [1, 2] (1 : Int) (9 : Int) (10 : Int)).1).getD 0 []).length : Int) == 3)) && ((((Cn.oneR [1, 1] [1, 2] (1 : Int) (9 : Int) (10 : Int)).1).getD 0 []).contains (-9))) && ((((Cn.oneR [1, 1] [1, 2] (1 : Int) (9 : Int) (10 : Int)).1).getD 0 []).contains (1 : Int))) && ((((Cn.oneR [1, 1] [1, 2] (1 : Int) (9 : Int) (10 : Int)).1).getD 0 []).contains (2 : Int))) = true)), (((((((((Cn.oneR [1, 1] [1, 2] (1 : Int) (9 : Int) (10 : Int)).1).length : Int) == 1) && (((((Cn.oneR [1, 1] [1, 2] (1 : Int) (9 : Int) (10 : Int)).1).getD 0 []).length : Int) == 3)) && ((((Cn.oneR [1, 1] [1, 2] (1 : Int) (9 : Int) (10 : Int)).1).getD 0 []).contains (-9))) && ((((Cn.oneR [1, 1] [1, 2] (1 : Int) (9 : Int) (10 : Int)).1).getD 0 []).contains (1 : Int))) && ((((Cn.oneR [1, 1] [1, 2] (1 : Int) (9 : Int) (10 : Int)).1).getD 0 []).contains (2 : Int))) = true → ((((((((Cn.oneR [1, 1] [1, 2] (1 : Int) (9 : Int) (10 : Int)).1).length : Int) == 1) && (((((Cn.oneR [1, 1] [1, 2] (1 : Int) (9 : Int) (10 : Int)).1).getD 0 []).length : Int) == 3)) && ((((Cn.oneR [1, 1] [1, 2] (1 : Int) (9 : Int) (10 : Int)).1).getD 0 []).contains (-9))) && ((((Cn.oneR [1, 1] [1, 2] (1 : Int) (9 : Int) (10 : Int)).1).getD 0 []).contains (1 : Int))) && ((((Cn.oneR [1, 1] [1, 2] (1 : Int) (9 : Int) (10 : Int)).1).getD 0 []).contains (2 : Int))) = true), ((((((((((Cn.oneR [1, 1] [1, 2] (1 : Int) (9 : Int) (10 : Int)).1).length : Int) == 1) && (((((Cn.oneR [1, 1] [1, 2] (1 : Int) (9 : Int) (10 : Int)).1).getD 0 []).length : Int) == 3)) && ((((Cn.oneR [1, 1] [1, 2] (1 : Int) (9 : Int) (10 : Int)).1).getD 0 []).contains (-9))) && ((((Cn.oneR [1, 1] [1, 2] (1 : Int) (9 : Int) (10 : Int)).1).getD 0 []).contains (1 : Int))) && ((((Cn.oneR [1, 1] [1, 2] (1 : Int) (9 : Int) (10 : Int)).1).getD 0 []).contains (2 : Int))) && (((Cn.oneR [1, 1] [1, 2] (1 : Int) (9 : Int) (10 : Int)).2.1) == 10)) = true → ((((((((((Cn.oneR [1, 1] [1, 2] (1 : Int) (9 : Int) (10 : Int)).1).length : Int) == 1) && (((((Cn.oneR [1, 1] [1, 2] (1 : Int) (9 : Int) (10 : Int)).1).getD 0 []).length : Int) == 3)) && ((((Cn.oneR [1, 1] [1, 2] (1 : Int) (9 : Int) (10 : Int)).1).getD 0 []).contains (-9))) && ((((Cn.oneR [1, 1] [1, 2] (1 : Int) (9 : Int) (10 : Int)).1).getD 0 []).contains (1 : Int))) && ((((Cn.oneR [1, 1] [1, 2] (1 : Int) (9 : Int) (10 : Int)).1).getD 0 []).contains (2 : Int))) && (((Cn.oneR [1, 1] [1, 2] (1 : Int) (9 : Int) (10 : Int)).2.1) == 10)) = true)), ((((((((((Cn.oneR [1, 1] [1, 2] (1 : Int) (9 : Int) (10 : Int)).1).length : Int) == 1) && (((((Cn.oneR [1, 1] [1, 2] (1 : Int) (9 : Int) (10 : Int)).1).getD 0 []).length : Int) == 3)) && ((((Cn.oneR [1, 1] [1, 2] (1 : Int) (9 : Int) (10 : Int)).1).getD 0 []).contains (-9))) && ((((Cn.oneR [1, 1] [1, 2] (1 : Int) (9 : Int) (10 : Int)).1).getD 0 []).contains (1 : Int))) && ((((Cn.oneR [1, 1] [1, 2] (1 : Int) (9 : Int) (10 : Int)).1).getD 0 []).contains (2 : Int))) && (((Cn.oneR [1, 1] [1, 2] (1 : Int) (9 : Int) (10 : Int)).2.1) == 10)) = true → (((((((((Cn.oneR [1, 1] [1, 2] (1 : Int) (9 : Int) (10 : Int)).1).length : Int) == 1) && (((((Cn.oneR [1, 1] [1, 2] (1 : Int) (9 : Int) (10 : Int)).1).getD 0 []).length : Int) == 3)) && ((((Cn.oneR [1, 1] [1, 2] (1 : Int) (9 : Int) (10 : Int)).1).getD 0 []).contains (-9))) && ((((Cn.oneR [1, 1] [1, 2] (1 : Int) (9 : Int) (10 : Int)).1).getD 0 []).contains (1 : Int))) && ((((Cn.oneR [1, 1] [1, 2] (1 : Int) (9 : Int) (10 : Int)).1).getD 0 []).contains (2 : Int))) && (((Cn.oneR [1, 1] [1, 2] (1 : Int) (9 : Int) (10 : Int)).2.1) == 10)) = true)] ?_ (Sq hcx [] [0] [22, 19, 21, 18, 13, 15, 8, 9, 6, 7, 4, 5] [] [((((Cn.howR [1, 1] [1, 2] (1 : Int)).1) == 1) = true → ((((Cn.howR [1, 1] [1, 2] (1 : Int)).1) == 1) = true)), ((((Cn.howR [1, 1] [1, 2] (1 : Int)).1) == 1) = true → (((Cn.howR [1, 1] [1, 2] (1 : Int)).1) == 1) = true), (lvC1 = true → (lvC1 = true)), (lvC1 = true → lvC1 = true), (lvC2 = true → (lvC2 = true)), (lvC2 = true → lvC2 = true), (lvC3 = true → (lvC3 = true)), (lvC3 = true → lvC3 = true), (lvC4 = true → (lvC4 = true)), (lvC4 = true → lvC4 = true), (lvC5 = true → lvC5 = true), (lvC6 = true → (lvC6 = true)), (lvC6 = true → (lvC6 = true)), (lvC6 = true → (lvC6 = true)), (lvC6 = true → (((Cn.oneR ([] : List (Int)) ([] : List (Int)) (1 : Int) (-4) (10 : Int)).1).length ≤ maxLen ∧ ∀ x ∈ ((Cn.oneR ([] : List (Int)) ([] : List (Int)) (1 : Int) (-4) (10 : Int)).1), x.length ≤ maxLen)), (lvC6 = true → lvC6 = true), (lvC7 = true → (lvC7 = true)), (lvC7 = true → lvC7 = true), (lvC8 = true → (lvC8 = true)), (lvC8 = true → lvC8 = true), (lvC9 = true → (lvC9 = true)), (lvC9 = true → (lvC9 = true)), (lvC9 = true → lvC9 = true), (lvC10 = true → (lvC10 = true)), (lvC10 = true → lvC10 = true)] ?_ (Zr (Rv hcx (congrArg AV.bool (show (lvC10 && (((Cn.allR [([], [], 0), ([1, 1], [1, 2], 1)] (3 : Int)).2.2) == 0)) = true from (by (simp only [lvC1, lvC2, lvC3, lvC4, lvC5, lvC6, lvC7, lvC8, lvC9, lvC10, h1, h2, h3, h4, h5, h6, h7]; decide)))) [] rfl))))))))))))))
  ·
   refine ap ?_ az
   exact True.intro
  ·
   refine ap ?_ az
   exact True.intro
  ·
   refine ap ?_ az
   exact True.intro
  ·
   refine ap ?_ az
   decide
  ·
   refine ap ?_ az
   decide
  ·
   refine ap ?_ az
   decide
  ·
   refine ap ?_ az
   decide
  ·
   refine ap ?_ (ap ?_ (ap ?_ (ap ?_ (ap ?_ (ap (by exact id) (ap ?_ (ap ?_ (ap ?_ (ap ?_ (ap ?_ (ap (by exact id) (ap ?_ (ap ?_ (ap ?_ (ap ?_ (ap ?_ (ap (by exact id) (ap ?_ (ap ?_ (ap ?_ (ap ?_ (ap ?_ (ap (by exact id) (ap ?_ (ap (by exact id) (ap ?_ (ap (by exact id) az))))))))))))))))))))))))))) <;>
    first | exact (fun h => h) | (simp only [lvC1, lvC2, lvC3, lvC4, lvC5, lvC6, lvC7, lvC8, lvC9, lvC10, h1, h2, h3, h4, h5, h6, h7]; decide)
  ·
   refine ap ?_ (ap (by exact id) (ap ?_ (ap (by exact id) (ap ?_ (ap (by exact id) (ap ?_ (ap (by exact id) (ap ?_ (ap (by exact id) (ap (by exact id) (ap ?_ (ap ?_ (ap ?_ (ap ?_ (ap (by exact id) (ap ?_ (ap (by exact id) (ap ?_ (ap (by exact id) (ap ?_ (ap ?_ (ap (by exact id) (ap ?_ (ap (by exact id) az)))))))))))))))))))))))) <;>
    first | exact (fun h => h) | (simp only [lvC1, lvC2, lvC3, lvC4, lvC5, lvC6, lvC7, lvC8, lvC9, lvC10, h1, h2, h3, h4, h5, h6, h7]; decide)
 ·
  cases hσ
end Go.Proofs.YtkkapbnopmmmjaaGreatDoor.En
namespace Go.Proofs.YtkkapbnopmmmjaaGreatDoor.En
open Go Go.RowKit
def ty18few : List (Nat × TD) := [(3, ⟨1, false, [.int .i64 0], [], none, 8, false, 1, 1⟩),
  (22, ⟨1, false, [.slice none 0 0], [], some 3, 24, false, 0, 3⟩),
  (24, ⟨3, true, [.slice none 0 0, .slice none 0 0, .int .i64 0], [(0, 22), (1, 22), (2, 3)], none, 56, false, 0, 5⟩)]
theorem ty18few_ok : AllTy Tryz.prog ty18few := ⟨⟨by kernel_rfl, by kernel_rfl, by kernel_rfl⟩, ⟨by kernel_rfl, by kernel_rfl, by kernel_rfl⟩, ⟨by kernel_rfl, by kernel_rfl, by kernel_rfl⟩, trivial⟩
def cx_rFew18 : Cx := ⟨ty18few, [], true⟩
theorem cx_rFew18_ok : CxOk Tryz.prog cx_rFew18 := cx_ok ty18few_ok trivial
def rFew18_σ : CtF
  | [.agg [.im (.ls (.ints C)), .im (.ls (.ints L)), .im (.val (.int .i64 B))], .im (.val (.int .i64 t))], [] => some (t ≤ 1000000, .bool (Cn.few18 C L B t), [])
  | _, _ => none
theorem rFew18_sound : Sound Tryz.prog 15 rFew18_σ := by
 refine Sw (cx := cx_rFew18) Tryz.f15 Tryz.func15 ?_
 intro wW wO wβ G0 args os p r outs hσ hp
 have hcx := cx_rFew18_ok
 unfold rFew18_σ at hσ
 split at hσ
 ·
  rename_i C L B t
  cases hσ
  refine ⟨by kernel_rfl, ?_⟩
  have ht9 := hp
  refine Sz hcx [(1000, .frz)] [2] [0] [] (Zs (Sq hcx [] [27] [1] [] [((!(decide ((C.length : Int) > t))) = true → ((!(decide ((C.length : Int) > t))) = true)), ((!(decide ((C.length : Int) > t))) = true → ((!(decide ((C.length : Int) > t))) = true)), ((!(decide ((C.length : Int) > t))) = true → ((!(decide ((C.length : Int) > t))) = true)), ((!(decide ((C.length : Int) > t))) = true → ((!(decide ((C.length : Int) > t))) = true)), ((decide ((C.length : Int) > t)) = false → (!(decide ((C.length : Int) > t))) = true), ((!((decide ((C.length : Int) > t)) || (decide ((L.length : Int) > t)))) = true → ((!((decide ((C.length : Int) > t)) || (decide ((L.length : Int) > t)))) = true)), ((!((decide ((C.length : Int) > t)) || (decide ((L.length : Int) > t)))) = true → ((!((decide ((C.length : Int) > t)) || (decide ((L.length : Int) > t)))) = true)), (((decide ((C.length : Int) > t)) || (decide ((L.length : Int) > t))) = false → (!((decide ((C.length : Int) > t)) || (decide ((L.length : Int) > t)))) = true), ((!(((decide ((C.length : Int) > t)) || (decide ((L.length : Int) > t))) || (decide (B > 100)))) = true → ((!(((decide ((C.length : Int) > t)) || (decide ((L.length : Int) > t))) || (decide (B > 100)))) = true)), ((!(((decide ((C.length : Int) > t)) || (decide ((L.length : Int) > t))) || (decide (B > 100)))) = true → ((!(((decide ((C.length : Int) > t)) || (decide ((L.length : Int) > t))) || (decide (B > 100)))) = true)), ((((decide ((C.length : Int) > t)) || (decide ((L.length : Int) > t))) || (decide (B > 100))) = false → (!(((decide ((C.length : Int) > t)) || (decide ((L.length : Int) > t))) || (decide (B > 100)))) = true)] ?_ (Zi (b := (((decide ((C.length : Int) > t)) || (decide ((L.length : Int) > t))) || (decide (B > 100))) || (decide (B < (-100)))) (fun h0 => ?_) fun h0 => ?_)))
  ·
   refine ap ?_ (ap ?_ (ap ?_ (ap ?_ (ap (by exact vcNot) (ap ?_ (ap ?_ (ap (by exact vcNot) (ap ?_ (ap ?_ (ap (by exact vcNot) az)))))))))) <;>
    first | omega | exact id | exact vcNot | exact vcG | exact vcH | (intro _; omega) | exact (fun _ h => h) | (intro h; simp at h; omega) | (simp only [List.length_cons, List.length_nil, List.length_append, List.length_map, List.length_set, List.length_replicate]; omega) | (intro h; simp [h]; done) | (intro _; constructor <;> omega) | done
  ·
   have hr := Cn.fw_no1 h0
   exact Sz hcx [] [4] [27, 2] [] (Zr (Fr (Rv hcx (congrArg AV.bool (show false = (Cn.few18 C L B t) from (by first | exact hr.symm | exact (Cn.fw_yes hq (by omega) hok).symm))) [] rfl)))
  ·
   have hq := Cn.fw_pre h0
   refine Zk (Ft (Zs (Sz hcx [] [5] [27] [] (Zb (Lp (X := Nat) (fun x0 => x0 ≤ C.length ∧ ∀ j, j < x0 → C.getD j 0 ≤ 20 ∧ -20 ≤ C.getD j 0) (fun x0 => ([(2, .pto [.ls (.ints C), .ls (.ints L), .int B]), (5, .int (x0 : Int))], [])) (fun x0 => C.length - x0) (0) ?_ (Ex 5 (congrArg AV.int (show 0 = (0 : Int) from (by first | rfl | omega | (simp; done)))) Eb) Hb fun i hI => ?_)))))
   ·
    exact ⟨Nat.zero_le _, fun j hj => by omega⟩
   ·
    try dsimp only at hI
    obtain ⟨hk, hok⟩ := hI
    refine Zs (Sz hcx [] [32] [] [] (Zj (p := ((i : Int) < (C.length : Int))) (fun h1 => ?_) fun h1 => ?_))
    ·
     have hi9 : i < C.length := by have := h1; omega
     refine Zk (Ft (Zs (Zb (Sq hcx [] [48] [32] [] [((0 : Int) ≤ (i : Int) ∧ (i : Int) < (C.length : Int)), ((!(decide ((C.getD i 0) > 20))) = true → ((!(decide ((C.getD i 0) > 20))) = true)), ((!(decide ((C.getD i 0) > 20))) = true → ((!(decide ((C.getD i 0) > 20))) = true)), ((!(decide ((C.getD i 0) > 20))) = true → ((!(decide ((C.getD i 0) > 20))) = true)), ((!(decide ((C.getD i 0) > 20))) = true → ((0 : Int) ≤ (i : Int) ∧ (i : Int) < (C.length : Int))), ((!(decide ((C.getD i 0) > 20))) = true → ((!(decide ((C.getD i 0) > 20))) = true)), ((!(decide ((C.getD i 0) > 20))) = true → ((!(decide ((C.getD i 0) > 20))) = true)), ((decide ((C.getD i 0) > 20)) = false → (!(decide ((C.getD i 0) > 20))) = true)] ?_ (Zi (b := (decide ((C.getD i 0) > 20)) || (decide ((C.getD i 0) < (-20)))) (fun h2 => ?_) fun h2 => ?_)))))
     ·
      refine ap ?_ (ap ?_ (ap ?_ (ap ?_ (ap ?_ (ap ?_ (ap ?_ (ap (by exact vcNot) az))))))) <;>
       first | omega | exact id | exact vcNot | exact vcG | exact vcH | (intro _; omega) | exact (fun _ h => h) | (intro h; simp at h; omega) | (simp only [List.length_cons, List.length_nil, List.length_append, List.length_map, List.length_set, List.length_replicate]; omega) | (intro h; simp [h]; done) | (intro _; constructor <;> omega) | done
     ·
      have hr := Cn.fw_no2 (L := L) (B := B) (t := t) hi9 h2
      exact Sz hcx [] [4] [48, 2, 5] [] (Zr (Fk (Fr (Fr (Fk (Fr (Rv hcx (congrArg AV.bool (show false = (Cn.few18 C L B t) from (by first | exact hr.symm | exact (Cn.fw_yes hq (by omega) hok).symm))) [] rfl)))))))
     ·
      have hs := Cn.fw_st h2
      refine Zk (Fb (Ft (Tq hcx [] [5] [48] [] [Fit ((i : Int) + 1)] ?_ (Lr (i + 1) ?_ ?_ (Ex 5 (congrArg AV.int (show ((i : Int) + 1) = ((i + 1) : Int) from (by first | rfl | omega | (simp; done)))) Eb) Hb))))
      ·
       refine ap ?_ az
       first | omega | exact id | exact vcNot | exact vcG | exact vcH | (intro _; omega) | exact (fun _ h => h) | (intro h; simp at h; omega) | (simp only [List.length_cons, List.length_nil, List.length_append, List.length_map, List.length_set, List.length_replicate]; omega) | (intro h; simp [h]; done) | (intro _; constructor <;> omega) | done
      ·
       exact ⟨by omega, fun j hj => by rcases (by omega : j < i ∨ j = i) with h | rfl; exact hok j h; exact hs⟩
      ·
       show C.length - (i + 1) < C.length - i
       omega
    ·
     exact Ze (Fe (Fe (Fs (Ft (Sz hcx [] [4] [32, 2, 5] [] (Zr (Rv hcx (congrArg AV.bool (show true = (Cn.few18 C L B t) from (by first | exact hr.symm | exact (Cn.fw_yes hq (by omega) hok).symm))) [] rfl)))))))
 ·
  cases hσ
end Go.Proofs.YtkkapbnopmmmjaaGreatDoor.En
namespace Go.Proofs.YtkkapbnopmmmjaaGreatDoor.En
open Go Go.RowKit
attribute [local irreducible] Cn.howR Cn.oneR Cn.allR Cn.allSt
def tyEncodeExtends : List (Nat × TD) := [(3, ⟨1, false, [.int .i64 0], [], none, 8, false, 1, 1⟩),
  (4, ⟨1, false, [.bool false], [], none, 1, true, 0, 2⟩),
  (22, ⟨1, false, [.slice none 0 0], [], some 3, 24, false, 0, 3⟩),
  (24, ⟨3, true, [.slice none 0 0, .slice none 0 0, .int .i64 0], [(0, 22), (1, 22), (2, 3)], none, 56, false, 0, 5⟩),
  (26, ⟨1, false, [.int .i64 0], [], none, 8, false, 1, 1⟩),
  (30, ⟨1, false, [.slice none 0 0], [], some 22, 24, false, 0, 0⟩),
  (35, ⟨1, false, [.slice none 0 0], [], some 4, 24, false, 0, 0⟩)]
theorem tyEncodeExtends_ok : AllTy Tryz.prog tyEncodeExtends := ⟨⟨by kernel_rfl, by kernel_rfl, by kernel_rfl⟩, ⟨by kernel_rfl, by kernel_rfl, by kernel_rfl⟩, ⟨by kernel_rfl, by kernel_rfl, by kernel_rfl⟩, ⟨by kernel_rfl, by kernel_rfl, by kernel_rfl⟩, ⟨by kernel_rfl, by kernel_rfl, by kernel_rfl⟩, ⟨by kernel_rfl, by kernel_rfl, by kernel_rfl⟩, ⟨by kernel_rfl, by kernel_rfl, by kernel_rfl⟩, trivial⟩
def cx_lEncodeExtends : Cx := ⟨tyEncodeExtends, [(12, (coeF [.agg [.ld (.ints []), .ld (.ints []), .id], .id, .id] eOne_σ)), (9, live18_σ), (15, (coeF [.agg [.ld (.ints []), .ld (.ints []), .id], .id] rFew18_σ)), (17, (coeF [.ld (.bools []), .id] lPadded_σ)), (18, (coeF [.id, .ld (.bools [])] lLit_σ)), (20, (coeF [.ld (.bools []), .id, .id] lKnown_σ)), (16, (coeF [.ld (.intss []), .id] lFits_σ)), (19, (coeF [.ld (.intss []), .ld (.ints [])] rCan18_τ)), (21, (coeF [.agg [.ld (.ints []), .ld (.ints []), .id], .ld (.bools [])] lvalue_σ.up))], true⟩
theorem cx_lEncodeExtends_ok : CxOk Tryz.prog cx_lEncodeExtends := cx_ok tyEncodeExtends_ok ⟨(eOne_sound.coe [.agg [.ld (.ints []), .ld (.ints []), .id], .id, .id] rfl), live18_sound, (rFew18_sound.coe [.agg [.ld (.ints []), .ld (.ints []), .id], .id] rfl), (lPadded_sound.coe [.ld (.bools []), .id] rfl), (lLit_sound.coe [.id, .ld (.bools [])] rfl), (lKnown_sound.coe [.ld (.bools []), .id, .id] rfl), (lFits_sound.coe [.ld (.intss []), .id] rfl), (rCan18_sound.coe [.ld (.intss []), .ld (.ints [])] rfl), (lvalue_sound.up.coe [.agg [.ld (.ints []), .ld (.ints []), .id], .ld (.bools [])] rfl), trivial⟩
def lEncodeExtends_σ : CtF
  | [.agg [.im (.ls (.ints C)), .im (.ls (.ints L)), .im (.val (.int .i64 B))], .im (.val (.int .i64 g)), .im (.val (.int .i64 next)), .im (.ls (.bools a))], [] => some (C.length ≤ maxLen ∧ L.length ≤ maxLen ∧ Fit g ∧ Fit next ∧ a.length ≤ maxLen, .bool true, [])
  | _, _ => none
set_option maxRecDepth 4000 in
set_option maxHeartbeats 2000000 in
theorem lEncodeExtends_sound : Sound Tryz.prog 5 lEncodeExtends_σ := by
 refine Sw (cx := cx_lEncodeExtends) Tryz.f5 Tryz.func5 ?_
 intro wW wO wβ G0 args os p r outs hσ hp
 have hcx := cx_lEncodeExtends_ok
 unfold lEncodeExtends_σ at hσ
 split at hσ
 ·
  rename_i C L B g next a
  cases hσ
  refine ⟨by kernel_rfl, ?_⟩
  obtain ⟨hC, hL, hg, hn, ha⟩ := hp
  have hob := Cn.one_bd C L B g next
  have hoe := Cn.one_el (C := C) (L := L) (B := B) (g := g) (next := next)
  refine Sz hcx [(1000, .frz)] [4] [0] [] (Zs (Sq hcx [] [15] [] [] [(True)] ?_ (Zi (b := !true) (fun h0 => ?_) fun h0 => ?_)))
  ·
   refine ap ?_ az
   first | omega | exact id | exact vcNot | exact vcG | exact vcH | (intro _; omega) | exact (fun _ h => h) | (intro h; simp at h; omega) | (simp only [List.length_cons, List.length_nil, List.length_append, List.length_map, List.length_set, List.length_replicate]; omega) | (intro h; simp [h]; done) | exact True.intro | exact id | exact (fun _ h => h) | exact ⟨hC, hL⟩ | exact ⟨hg, hn⟩ | exact ⟨ha, by omega, by omega⟩ | exact ⟨ha, e1, e2, by omega⟩ | (intro _; exact ⟨by omega, fun l hl => by have := hoe l hl; omega, e4, by omega⟩) | exact ⟨by omega, fun l hl => by have := hoe l hl; omega, by rw [Cn.knV_len]; omega, by rw [Cn.knV_len]; exact e4, Cn.knV_ok⟩ | (intro _; exact hgf) | (intro _; constructor <;> omega) | (constructor <;> omega) | (intro _; omega) | done
  ·
   cases h0
  ·
   replace h0 := (notB_f h0)
   refine Zk (Ft (Zs (Sq hcx [] [22] [15] [] [((6 : Int) ≤ 1000000), ((!(!(Cn.few18 C L B (6 : Int)))) = true → ((!(!(Cn.few18 C L B (6 : Int)))) = true)), ((!(Cn.few18 C L B (6 : Int))) = false → (!(!(Cn.few18 C L B (6 : Int)))) = true)] ?_ (Zi (b := (!(Cn.few18 C L B (6 : Int))) || (decide (next > 40))) (fun h1 => ?_) fun h1 => ?_))))
   ·
    refine ap ?_ (ap ?_ (ap (by exact vcNot) az)) <;>
     first | omega | exact id | exact vcNot | exact vcG | exact vcH | (intro _; omega) | exact (fun _ h => h) | (intro h; simp at h; omega) | (simp only [List.length_cons, List.length_nil, List.length_append, List.length_map, List.length_set, List.length_replicate]; omega) | (intro h; simp [h]; done) | exact True.intro | exact id | exact (fun _ h => h) | exact ⟨hC, hL⟩ | exact ⟨hg, hn⟩ | exact ⟨ha, by omega, by omega⟩ | exact ⟨ha, e1, e2, by omega⟩ | (intro _; exact ⟨by omega, fun l hl => by have := hoe l hl; omega, e4, by omega⟩) | exact ⟨by omega, fun l hl => by have := hoe l hl; omega, by rw [Cn.knV_len]; omega, by rw [Cn.knV_len]; exact e4, Cn.knV_ok⟩ | (intro _; exact hgf) | (intro _; constructor <;> omega) | (constructor <;> omega) | (intro _; omega) | done
   ·
    skip
    exact Sz hcx [] [8] [22, 4, 1, 2, 3] [] (Zr (Fr (Ru hcx [])))
   ·
    obtain ⟨hF, hn40⟩ := Cn.ex_few h1
    refine Zk (Ft (Sq hcx [] [9, 10, 11] [22] [] [(Fit g ∧ Fit next)] ?_ (Zs (Sz hcx [] [32] [11] [] (Zx (a := ((Cn.oneR C L B g next).2.2)) (b := 0) (fun h2 => ?_) fun h2 => ?_)))))
    ·
     refine ap ?_ az
     first | omega | exact id | exact vcNot | exact vcG | exact vcH | (intro _; omega) | exact (fun _ h => h) | (intro h; simp at h; omega) | (simp only [List.length_cons, List.length_nil, List.length_append, List.length_map, List.length_set, List.length_replicate]; omega) | (intro h; simp [h]; done) | exact True.intro | exact id | exact (fun _ h => h) | exact ⟨hC, hL⟩ | exact ⟨hg, hn⟩ | exact ⟨ha, by omega, by omega⟩ | exact ⟨ha, e1, e2, by omega⟩ | (intro _; exact ⟨by omega, fun l hl => by have := hoe l hl; omega, e4, by omega⟩) | exact ⟨by omega, fun l hl => by have := hoe l hl; omega, by rw [Cn.knV_len]; omega, by rw [Cn.knV_len]; exact e4, Cn.knV_ok⟩ | (intro _; exact hgf) | (intro _; constructor <;> omega) | (constructor <;> omega) | (intro _; omega) | done
    ·
     have hr := Cn.snd_err h2
     refine Sq hcx [] [8] [32, 9, 10, 4, 1, 2, 3] [] [(((((Cn.oneR C L B g next).1).length : Int) == 0) = true → (((((Cn.oneR C L B g next).1).length : Int) == 0) = true)), (((((Cn.oneR C L B g next).1).length : Int) == 0) = true → ((((Cn.oneR C L B g next).1).length : Int) == 0) = true)] ?_ (Zr (Fr (Rv hcx (congrArg AV.bool (show (((((Cn.oneR C L B g next).1).length : Int) == 0) && (((Cn.oneR C L B g next).2.1) == 0)) = true from (by first | rfl | exact hr | (rw [e5]; simp; done) | done))) [] rfl)))
     ·
      refine ap ?_ (ap (by exact id) az)
      first | omega | exact id | exact vcNot | exact vcG | exact vcH | (intro _; omega) | exact (fun _ h => h) | (intro h; simp at h; omega) | (simp only [List.length_cons, List.length_nil, List.length_append, List.length_map, List.length_set, List.length_replicate]; omega) | (intro h; simp [h]; done) | exact True.intro | exact id | exact (fun _ h => h) | exact ⟨hC, hL⟩ | exact ⟨hg, hn⟩ | exact ⟨ha, by omega, by omega⟩ | exact ⟨ha, e1, e2, by omega⟩ | (intro _; exact ⟨by omega, fun l hl => by have := hoe l hl; omega, e4, by omega⟩) | exact ⟨by omega, fun l hl => by have := hoe l hl; omega, by rw [Cn.knV_len]; omega, by rw [Cn.knV_len]; exact e4, Cn.knV_ok⟩ | (intro _; exact hgf) | (intro _; constructor <;> omega) | (constructor <;> omega) | (intro _; omega) | done
    ·
     have h0 : (Cn.oneR C L B g next).2.2 = 0 := by first | exact h2 | exact Decidable.not_not.1 h2
     obtain ⟨⟨e1, e2, e3⟩, e4, e5⟩ := Cn.ext_fin (a := a) hF hn40 h0
     have hgf := Cn.lit_fit (Cn.one_ok h0).2.2 hn40
     refine Zk (Ft (Zs (Sq hcx [] [52] [32] [] [((!(decide ((Cn.oneR C L B g next).2.1 < next))) = true → ((!(decide ((Cn.oneR C L B g next).2.1 < next))) = true)), ((decide ((Cn.oneR C L B g next).2.1 < next)) = false → (!(decide ((Cn.oneR C L B g next).2.1 < next))) = true), ((!((decide ((Cn.oneR C L B g next).2.1 < next)) || (decide ((Cn.oneR C L B g next).2.1 > 300)))) = true → ((!((decide ((Cn.oneR C L B g next).2.1 < next)) || (decide ((Cn.oneR C L B g next).2.1 > 300)))) = true)), ((!((decide ((Cn.oneR C L B g next).2.1 < next)) || (decide ((Cn.oneR C L B g next).2.1 > 300)))) = true → ((!((decide ((Cn.oneR C L B g next).2.1 < next)) || (decide ((Cn.oneR C L B g next).2.1 > 300)))) = true)), ((!((decide ((Cn.oneR C L B g next).2.1 < next)) || (decide ((Cn.oneR C L B g next).2.1 > 300)))) = true → (((Cn.oneR C L B g next).1).length ≤ 1000000000 ∧ (∀ z9 ∈ ((Cn.oneR C L B g next).1), z9.length ≤ 1000000000) ∧ Cn.OkC ((Cn.oneR C L B g next).2.1).toNat ((Cn.oneR C L B g next).1) ∧ ((Cn.oneR C L B g next).2.1) ≤ 1000)), ((!((decide ((Cn.oneR C L B g next).2.1 < next)) || (decide ((Cn.oneR C L B g next).2.1 > 300)))) = true → ((!((decide ((Cn.oneR C L B g next).2.1 < next)) || (decide ((Cn.oneR C L B g next).2.1 > 300)))) = true)), (((decide ((Cn.oneR C L B g next).2.1 < next)) || (decide ((Cn.oneR C L B g next).2.1 > 300))) = false → (!((decide ((Cn.oneR C L B g next).2.1 < next)) || (decide ((Cn.oneR C L B g next).2.1 > 300)))) = true)] ?_ (Zi (b := ((decide ((Cn.oneR C L B g next).2.1 < next)) || (decide ((Cn.oneR C L B g next).2.1 > 300))) || (!true)) (fun h3 => ?_) fun h3 => ?_))))
     ·
      refine ap ?_ (ap (by exact vcNot) (ap ?_ (ap ?_ (ap ?_ (ap ?_ (ap (by exact vcNot) az)))))) <;>
       first | omega | exact id | exact vcNot | exact vcG | exact vcH | (intro _; omega) | exact (fun _ h => h) | (intro h; simp at h; omega) | (simp only [List.length_cons, List.length_nil, List.length_append, List.length_map, List.length_set, List.length_replicate]; omega) | (intro h; simp [h]; done) | exact True.intro | exact id | exact (fun _ h => h) | exact ⟨hC, hL⟩ | exact ⟨hg, hn⟩ | exact ⟨ha, by omega, by omega⟩ | exact ⟨ha, e1, e2, by omega⟩ | (intro _; exact ⟨by omega, fun l hl => by have := hoe l hl; omega, e4, by omega⟩) | exact ⟨by omega, fun l hl => by have := hoe l hl; omega, by rw [Cn.knV_len]; omega, by rw [Cn.knV_len]; exact e4, Cn.knV_ok⟩ | (intro _; exact hgf) | (intro _; constructor <;> omega) | (constructor <;> omega) | (intro _; omega) | done
     ·
      (exfalso; exact Cn.ex_dead e2 e3 h3)
     ·
      skip
      refine Zk (Ft (Sq hcx [(1003, .to 256)] [12] [52] [] [Fit (next - 1), (a.length ≤ maxLen ∧ 0 ≤ (next - 1) ∧ (next - 1) ≤ 1000000)] ?_ (Zs (Zn [(256, .frz)] [12, 9, 10, 4, 1, 2, 3] (Tq hcx [] [13] [1] [] [((!(g == 0)) = true → ((!(g == 0)) = true)), ((!(g == 0)) = true → ((!(g == 0)) = true)), ((!(g == 0)) = true → (-9223372036854775807 ≤ g ∧ g ≤ 9223372036854775807)), ((g == 0) = false → (!(g == 0)) = true)] ?_ (Ft (Sq hcx [] [8] [13, 12, 9, 10, 4, 2, 3] [] [(a.length ≤ maxLen ∧ 1 ≤ next ∧ next ≤ ((Cn.oneR C L B g next).2.1) ∧ ((Cn.oneR C L B g next).2.1) ≤ 1000), (((Cn.oneR C L B g next).1).length ≤ 1000000000 ∧ (∀ z9 ∈ ((Cn.oneR C L B g next).1), z9.length ≤ 1000000000) ∧ (Cn.knV a next ((Cn.oneR C L B g next).2.1)).length ≤ 1000000 ∧ Cn.OkC (Cn.knV a next ((Cn.oneR C L B g next).2.1)).length ((Cn.oneR C L B g next).1) ∧ Cn.OkA (Cn.knV a next ((Cn.oneR C L B g next).2.1))), ((!(!((g == 0) || (Cn.litW (Cn.padL a (next - 1)) g)))) = true → ((!(!((g == 0) || (Cn.litW (Cn.padL a (next - 1)) g)))) = true)), ((!(!((g == 0) || (Cn.litW (Cn.padL a (next - 1)) g)))) = true → ((!(!((g == 0) || (Cn.litW (Cn.padL a (next - 1)) g)))) = true)), ((!(!((g == 0) || (Cn.litW (Cn.padL a (next - 1)) g)))) = true → (True)), ((!((g == 0) || (Cn.litW (Cn.padL a (next - 1)) g))) = false → (!(!((g == 0) || (Cn.litW (Cn.padL a (next - 1)) g)))) = true)] ?_ (Zr (Rv hcx (congrArg AV.bool (show ((Cn.satE ((Cn.oneR C L B g next).1) (Cn.knV a next ((Cn.oneR C L B g next).2.1))) == ((!((g == 0) || (Cn.litW (Cn.padL a (next - 1)) g))) || (lvalue ⟨C, L, B⟩ (Cn.padL a (next - 1))))) = true from (by first | rfl | exact hr | (rw [e5]; simp; done) | done))) [] rfl)))))))))
      ·
       refine ap ?_ (ap ?_ az) <;>
        first | omega | exact id | exact vcNot | exact vcG | exact vcH | (intro _; omega) | exact (fun _ h => h) | (intro h; simp at h; omega) | (simp only [List.length_cons, List.length_nil, List.length_append, List.length_map, List.length_set, List.length_replicate]; omega) | (intro h; simp [h]; done) | exact True.intro | exact id | exact (fun _ h => h) | exact ⟨hC, hL⟩ | exact ⟨hg, hn⟩ | exact ⟨ha, by omega, by omega⟩ | exact ⟨ha, e1, e2, by omega⟩ | (intro _; exact ⟨by omega, fun l hl => by have := hoe l hl; omega, e4, by omega⟩) | exact ⟨by omega, fun l hl => by have := hoe l hl; omega, by rw [Cn.knV_len]; omega, by rw [Cn.knV_len]; exact e4, Cn.knV_ok⟩ | (intro _; exact hgf) | (intro _; constructor <;> omega) | (constructor <;> omega) | (intro _; omega) | done
      ·
       refine ap ?_ (ap ?_ (ap ?_ (ap (by exact vcNot) az))) <;>
        first | omega | exact id | exact vcNot | exact vcG | exact vcH | (intro _; omega) | exact (fun _ h => h) | (intro h; simp at h; omega) | (simp only [List.length_cons, List.length_nil, List.length_append, List.length_map, List.length_set, List.length_replicate]; omega) | (intro h; simp [h]; done) | exact True.intro | exact id | exact (fun _ h => h) | exact ⟨hC, hL⟩ | exact ⟨hg, hn⟩ | exact ⟨ha, by omega, by omega⟩ | exact ⟨ha, e1, e2, by omega⟩ | (intro _; exact ⟨by omega, fun l hl => by have := hoe l hl; omega, e4, by omega⟩) | exact ⟨by omega, fun l hl => by have := hoe l hl; omega, by rw [Cn.knV_len]; omega, by rw [Cn.knV_len]; exact e4, Cn.knV_ok⟩ | (intro _; exact hgf) | (intro _; constructor <;> omega) | (constructor <;> omega) | (intro _; omega) | done
      ·
       refine ap ?_ (ap ?_ (ap ?_ (ap ?_ (ap ?_ (ap (by exact vcNot) az))))) <;>
        first | omega | exact id | exact vcNot | exact vcG | exact vcH | (intro _; omega) | exact (fun _ h => h) | (intro h; simp at h; omega) | (simp only [List.length_cons, List.length_nil, List.length_append, List.length_map, List.length_set, List.length_replicate]; omega) | (intro h; simp [h]; done) | exact True.intro | exact id | exact (fun _ h => h) | exact ⟨hC, hL⟩ | exact ⟨hg, hn⟩ | exact ⟨ha, by omega, by omega⟩ | exact ⟨ha, e1, e2, by omega⟩ | (intro _; exact ⟨by omega, fun l hl => by have := hoe l hl; omega, e4, by omega⟩) | exact ⟨by omega, fun l hl => by have := hoe l hl; omega, by rw [Cn.knV_len]; omega, by rw [Cn.knV_len]; exact e4, Cn.knV_ok⟩ | (intro _; exact hgf) | (intro _; constructor <;> omega) | (constructor <;> omega) | (intro _; omega) | done
 ·
  cases hσ
end Go.Proofs.YtkkapbnopmmmjaaGreatDoor.En
