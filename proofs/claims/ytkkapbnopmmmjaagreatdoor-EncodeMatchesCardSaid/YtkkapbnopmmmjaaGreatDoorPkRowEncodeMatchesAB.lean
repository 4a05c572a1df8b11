/- Lemmas and contracts for the row. -/
import Derived.Test.YtkkapbnopmmmjaaGreatDoorPkRowEncodeMatchesY
import Derived.Test.YtkkapbnopmmmjaaGreatDoorPkRowEncodeMatchesL
import Derived.Test.YtkkapbnopmmmjaaGreatDoorProg
set_option linter.unusedVariables false
set_option linter.unusedSimpArgs false
set_option linter.unnecessarySimpa false
namespace Go.Proofs.YtkkapbnopmmmjaaGreatDoor.En
open Go Go.RowKit
def j8n : List (Nat × TD) := [(3, ⟨1, false, [.int .i64 0], [], none, 8, false, 1, 1⟩),
 (4, ⟨1, false, [.bool false], [], none, 1, true, 0, 2⟩),
 (22, ⟨1, false, [.slice none 0 0], [], some 3, 24, false, 0, 53⟩),
 (26, ⟨1, false, [.int .i64 0], [], none, 8, false, 1, 1⟩),
 (30, ⟨1, false, [.slice none 0 0], [], some 22, 24, false, 0, 0⟩),
 (35, ⟨1, false, [.slice none 0 0], [], some 4, 24, false, 0, 0⟩),
 (132, ⟨2, true, [.slice none 0 0, .int .i64 0], [(0, 30), (1, 3)], none, 32, false, 0, 0⟩)]
theorem q7o : q7v Tryz.prog j8n := ⟨⟨by kernel_rfl, by kernel_rfl, by kernel_rfl⟩, ⟨by kernel_rfl, by kernel_rfl, by kernel_rfl⟩, ⟨by kernel_rfl, by kernel_rfl, by kernel_rfl⟩, ⟨by kernel_rfl, by kernel_rfl, by kernel_rfl⟩, ⟨by kernel_rfl, by kernel_rfl, by kernel_rfl⟩, ⟨by kernel_rfl, by kernel_rfl, by kernel_rfl⟩, ⟨by kernel_rfl, by kernel_rfl, by kernel_rfl⟩, trivial⟩
def z7c : Cx := ⟨j8n, [], true⟩
theorem j0q : q1g Tryz.prog z7c := q1b q7o trivial
def q4y : CtF
 | [.im (.ls (.ints l)), .im (.val (.int .i64 next))], [] => some (l.length ≤ maxLen ∧ (∀ x ∈ l, -9223372036854775808 ≤ x ∧ x ≤ 9223372036854775807) ∧ next ≤ 70000 ∧ -9223372036854775808 ≤ next, .int (Cn.q9e next l), [])
 | _, _ => none
theorem q3u : q0o Tryz.prog 40 q4y := by
 refine Sw (cx := z7c) Tryz.f40 Tryz.func40 ?_
 intro wW wO wβ G0 args os p r outs hσ hp
 have hcx := j0q
 unfold q4y at hσ
 split at hσ
 ·
  rename_i l next
  cases hσ
  refine ⟨by kernel_rfl, ?_⟩
  obtain ⟨hm1, hx, hn1, hn2⟩ := hp
  unfold maxLen at hm1
  have hb := fun i (h : i < l.length) => hx _ (Cn.q0u (d := (0 : Int)) (k := i) h)
  refine Sz hcx [] [] [] [] (Sq hcx [(1002, .to 210)] [5] [] [] [((0 : Int) ≤ (max 0 next) ∧ (max 0 next) ≤ ((max 0 next) : Int) ∧ (max 0 next).toNat * 1 ≤ 140737488355328)] ?_ (Zs (Sz hcx [] [6] [] [] (Zb (Zn [(210, .to 700)] [0, 1, 5, 6] (Lp (X := Nat) (fun x0 => x0 ≤ l.length ∧ ∀ j, j < x0 → Cn.j2x next l j = true) (fun x0 => ([(0, .ints l), (1, .int next), (5, .row 700), (6, .int (x0 : Int))], [(700, .row 4 (.bools (Cn.q5y next l x0)))])) (fun x0 => l.length - x0) (0) ?_ (Ex 6 (congrArg AV.int (show 0 = (0 : Int) from (by first | rfl | omega | (simp; done)))) Eb) (Hx 700 (congrArg (fun x => q0d.row 4 (.bools x)) (show (List.replicate (max 0 next).toNat false) = (Cn.q5y next l 0) from (by exact Cn.x5i (by omega)))) Hb) fun i hI => ?_))))))
  ·
   refine ap ?_ az
   omega
  ·
   exact ⟨Nat.zero_le _, fun j hj => by omega⟩
  ·
   try dsimp only at hI
   obtain ⟨hk, hok⟩ := hI
   have hbi := hb i
   have hml := Cn.j9y (next := next) (l := l) (i := i)
   refine Zs (Sz hcx [] [14] [] [] (Zj (p := ((i : Int) < (l.length : Int))) (fun h0 => ?_) fun h0 => ?_))
   ·
    refine Zk (Ft (Zs (Zb (Sq hcx [] [7] [14] [] [((0 : Int) ≤ (i : Int) ∧ (i : Int) < (l.length : Int))] ?_ (Zs (Sz hcx [] [22] [] [] (Zj (p := ((l.getD i 0) < 0)) (fun h1 => ?_) fun h1 => ?_)))))))
    ·
     refine ap ?_ az
     omega
    ·
     have hw := Cn.k4y (next := next) (x := l.getD i 0) (by have := h1; omega) (hb i (by omega)).1 hn1
     refine Zg 23 24 7 3 (l.getD i 0) [0, 1, 5, 6] _ _ _ rfl ⟨rfl, rfl, rfl⟩ ⟨rfl, rfl, rfl⟩ ⟨rfl, rfl, rfl⟩ ?_
     refine Ft (Zs (Sq hcx [] [37] [] [] [((!(decide (wrap64 (-(l.getD i 0)) < 1))) = true → ((!(decide (wrap64 (-(l.getD i 0)) < 1))) = true)), ((!(decide (wrap64 (-(l.getD i 0)) < 1))) = true → ((!(decide (wrap64 (-(l.getD i 0)) < 1))) = true)), ((decide (wrap64 (-(l.getD i 0)) < 1)) = false → (!(decide (wrap64 (-(l.getD i 0)) < 1))) = true), ((!((decide (wrap64 (-(l.getD i 0)) < 1)) || (decide (wrap64 (-(l.getD i 0)) ≥ next)))) = true → ((!((decide (wrap64 (-(l.getD i 0)) < 1)) || (decide (wrap64 (-(l.getD i 0)) ≥ next)))) = true)), ((!((decide (wrap64 (-(l.getD i 0)) < 1)) || (decide (wrap64 (-(l.getD i 0)) ≥ next)))) = true → ((!((decide (wrap64 (-(l.getD i 0)) < 1)) || (decide (wrap64 (-(l.getD i 0)) ≥ next)))) = true)), ((!((decide (wrap64 (-(l.getD i 0)) < 1)) || (decide (wrap64 (-(l.getD i 0)) ≥ next)))) = true → ((0 : Int) ≤ wrap64 (-(l.getD i 0)) ∧ wrap64 (-(l.getD i 0)) < ((Cn.q5y next l i).length : Int))), ((!((decide (wrap64 (-(l.getD i 0)) < 1)) || (decide (wrap64 (-(l.getD i 0)) ≥ next)))) = true → ((!((decide (wrap64 (-(l.getD i 0)) < 1)) || (decide (wrap64 (-(l.getD i 0)) ≥ next)))) = true)), ((!((decide (wrap64 (-(l.getD i 0)) < 1)) || (decide (wrap64 (-(l.getD i 0)) ≥ next)))) = true → (((wrap64 (-(l.getD i 0))).toNat) < (Cn.q5y next l i).length)), (((decide (wrap64 (-(l.getD i 0)) < 1)) || (decide (wrap64 (-(l.getD i 0)) ≥ next))) = false → (!((decide (wrap64 (-(l.getD i 0)) < 1)) || (decide (wrap64 (-(l.getD i 0)) ≥ next)))) = true)] ?_ (Zi (b := ((decide (wrap64 (-(l.getD i 0)) < 1)) || (decide (wrap64 (-(l.getD i 0)) ≥ next))) || ((Cn.q5y next l i).getD ((wrap64 (-(l.getD i 0))).toNat) false)) (fun h2 => ?_) fun h2 => ?_)))
     ·
      refine ap ?_ (ap ?_ (ap (by exact q1v) (ap ?_ (ap ?_ (ap ?_ (ap ?_ (ap ?_ (ap (by exact q1v) az)))))))) <;>
       first | exact id | (intro hg; have hg2 := Cn.k6p hg; rw [hml]; omega)
     ·
      have hr := Cn.y8f (by omega) hw h2
      exact Sz hcx [] [4] [37, 7, 0, 1, 5, 6] [700] (Zr (Fr (Fk (Fr (Fr (Fk (Fr (Rv hcx (congrArg AV.int (show 140 = (Cn.q9e next l) from (by first | exact hr.symm | exact (Cn.z7u (by omega) hok).symm))) [] rfl))))))))
     ·
      obtain ⟨hq, hw1, hw2, hw3⟩ := Cn.x5a hw h2
      refine Zk (Ft (Tq hcx [(700, .to 700)] [] [37, 7] [] [((0 : Int) ≤ wrap64 (-(l.getD i 0)) ∧ wrap64 (-(l.getD i 0)) < ((Cn.q5y next l i).length : Int)), (((wrap64 (-(l.getD i 0))).toNat) < (Cn.q5y next l i).length)] ?_ (Fb (Ft (Tq hcx [] [6] [] [] [Fit ((i : Int) + 1)] ?_ (Lr (i + 1) ?_ ?_ (Ex 6 (congrArg AV.int (show ((i : Int) + 1) = ((i + 1) : Int) from (by first | rfl | omega | (simp; done)))) Eb) (Hx 700 (congrArg (fun x => q0d.row 4 (.bools x)) (show ((Cn.q5y next l i).set ((wrap64 (-(l.getD i 0))).toNat) true) = (Cn.q5y next l (i + 1)) from (by exact Cn.z3w (by omega) hw3 hw1))) Hb)))))))
      ·
       refine ap ?_ (ap ?_ az) <;>
        omega
      ·
       refine ap ?_ az
       omega
      ·
       exact ⟨by omega, fun j hj => by rcases (by omega : j < i ∨ j = i) with h | rfl; exact hok j h; exact hq⟩
      ·
       show l.length - (i + 1) < l.length - i
       omega
    ·
     have hw : l.getD i 0 = max (l.getD i 0) (-(l.getD i 0)) ∨ (l.getD i 0 < 1 ∧ next ≤ max (l.getD i 0) (-(l.getD i 0))) := .inl (by have := h1; omega)
     refine Zk (Ft (Zs (Sq hcx [] [37] [22] [] [((!(decide ((l.getD i 0) < 1))) = true → ((!(decide ((l.getD i 0) < 1))) = true)), ((!(decide ((l.getD i 0) < 1))) = true → ((!(decide ((l.getD i 0) < 1))) = true)), ((decide ((l.getD i 0) < 1)) = false → (!(decide ((l.getD i 0) < 1))) = true), ((!((decide ((l.getD i 0) < 1)) || (decide ((l.getD i 0) ≥ next)))) = true → ((!((decide ((l.getD i 0) < 1)) || (decide ((l.getD i 0) ≥ next)))) = true)), ((!((decide ((l.getD i 0) < 1)) || (decide ((l.getD i 0) ≥ next)))) = true → ((!((decide ((l.getD i 0) < 1)) || (decide ((l.getD i 0) ≥ next)))) = true)), ((!((decide ((l.getD i 0) < 1)) || (decide ((l.getD i 0) ≥ next)))) = true → ((0 : Int) ≤ (l.getD i 0) ∧ (l.getD i 0) < ((Cn.q5y next l i).length : Int))), ((!((decide ((l.getD i 0) < 1)) || (decide ((l.getD i 0) ≥ next)))) = true → ((!((decide ((l.getD i 0) < 1)) || (decide ((l.getD i 0) ≥ next)))) = true)), ((!((decide ((l.getD i 0) < 1)) || (decide ((l.getD i 0) ≥ next)))) = true → (((l.getD i 0).toNat) < (Cn.q5y next l i).length)), (((decide ((l.getD i 0) < 1)) || (decide ((l.getD i 0) ≥ next))) = false → (!((decide ((l.getD i 0) < 1)) || (decide ((l.getD i 0) ≥ next)))) = true)] ?_ (Zi (b := ((decide ((l.getD i 0) < 1)) || (decide ((l.getD i 0) ≥ next))) || ((Cn.q5y next l i).getD ((l.getD i 0).toNat) false)) (fun h3 => ?_) fun h3 => ?_))))
     ·
      refine ap ?_ (ap ?_ (ap (by exact q1v) (ap ?_ (ap ?_ (ap ?_ (ap ?_ (ap ?_ (ap (by exact q1v) az)))))))) <;>
       first | exact id | (intro hg; have hg2 := Cn.k6p hg; rw [hml]; omega)
     ·
      have hr := Cn.y8f (by omega) hw h3
      exact Sz hcx [] [4] [37, 7, 0, 1, 5, 6] [700] (Zr (Fr (Fk (Fr (Fr (Fk (Fr (Rv hcx (congrArg AV.int (show 140 = (Cn.q9e next l) from (by first | exact hr.symm | exact (Cn.z7u (by omega) hok).symm))) [] rfl))))))))
     ·
      obtain ⟨hq, hw1, hw2, hw3⟩ := Cn.x5a hw h3
      refine Zk (Ft (Tq hcx [(700, .to 700)] [] [37, 7] [] [((0 : Int) ≤ (l.getD i 0) ∧ (l.getD i 0) < ((Cn.q5y next l i).length : Int)), (((l.getD i 0).toNat) < (Cn.q5y next l i).length)] ?_ (Fb (Ft (Tq hcx [] [6] [] [] [Fit ((i : Int) + 1)] ?_ (Lr (i + 1) ?_ ?_ (Ex 6 (congrArg AV.int (show ((i : Int) + 1) = ((i + 1) : Int) from (by first | rfl | omega | (simp; done)))) Eb) (Hx 700 (congrArg (fun x => q0d.row 4 (.bools x)) (show ((Cn.q5y next l i).set ((l.getD i 0).toNat) true) = (Cn.q5y next l (i + 1)) from (by exact Cn.z3w (by omega) hw3 hw1))) Hb)))))))
      ·
       refine ap ?_ (ap ?_ az) <;>
        omega
      ·
       refine ap ?_ az
       omega
      ·
       exact ⟨by omega, fun j hj => by rcases (by omega : j < i ∨ j = i) with h | rfl; exact hok j h; exact hq⟩
      ·
       show l.length - (i + 1) < l.length - i
       omega
   ·
    exact Ze (Fe (Fe (Fs (Ft (Sz hcx [] [4] [14, 0, 1, 5, 6] [700] (Zr (Rv hcx (congrArg AV.int (show 0 = (Cn.q9e next l) from (by first | exact hr.symm | exact (Cn.z7u (by omega) hok).symm))) [] rfl)))))))
 ·
  cases hσ
def q3y (nn : Nat) : CtF
 | [.im (.val (.int .i64 n)), .im (.val (.int .i64 most))], [] => some (1 ≤ n ∧ n ≤ 4096 ∧ 0 ≤ most ∧ most ≤ 1099511627776 ∧ n.toNat ≤ nn, .int (Cn.q1k most n.toNat), [])
 | _, _ => none
def z6x (nn : Nat) : Cx := ⟨j8n, [(40, (q2g [.ld (.ints []), .id] q4y)), (94, (q3y nn))], true⟩
theorem j0v (nn : Nat) (hR : q0o Tryz.prog 94 (q3y nn)) : q1g Tryz.prog (z6x nn) := q1b q7o ⟨(q3u.coe [.ld (.ints []), .id] rfl), hR, trivial⟩
theorem j4b (nn : Nat) (hR : q0o Tryz.prog 94 (q3y nn)) : q0o Tryz.prog 94 (q3y (nn + 1)) := by
 refine Sw (cx := (z6x nn)) Tryz.f94 Tryz.func94 ?_
 intro wW wO wβ G0 args os p r outs hσ hp
 have hcx := j0v nn hR
 unfold q3y at hσ
 split at hσ
 ·
  rename_i n most
  cases hσ
  refine ⟨by kernel_rfl, ?_⟩
  obtain ⟨h_1, h_2, h_3, h_4, h_5⟩ := hp
  have hd : n.tdiv 2 = n / 2 := Int.tdiv_eq_ediv_of_nonneg (by omega)
  have hb1 := Cn.q5t h_3 (n.tdiv 2).toNat
  have hb2 := Cn.q5t h_3 (n - n.tdiv 2).toNat
  have hs1 := Cn.x8s (n := (n.tdiv 2).toNat) (by rw [hd]; omega)
  have hs2 := Cn.x8s (n := (n - n.tdiv 2).toNat) (by rw [hd]; omega)
  refine Sz hcx [] [] [] [] (Zs (Sz hcx [] [6] [] [] (Zu (a := n) (b := 1) (fun h0 => ?_) fun h0 => ?_)))
  ·
   have hr := Cn.j0a (most := most) (n := n.toNat) (by omega)
   exact Sz hcx [] [4] [6, 0, 1] [] (Zr (Fr (Rv hcx (congrArg AV.int (show 0 = (Cn.q1k most n.toNat) from (by exact hr.symm))) [] rfl)))
  ·
   have hr := Cn.x7a (most := most) (n := n) h_1 (by have := h0; omega)
   refine Zk (Ft (Sq hcx [] [4] [6, 0, 1] [] [((2 : Int) ≠ 0 ∧ Fit (n.tdiv 2)), (1 ≤ (n.tdiv 2) ∧ (n.tdiv 2) ≤ 4096 ∧ 0 ≤ most ∧ most ≤ 1099511627776 ∧ (n.tdiv 2).toNat ≤ nn), ((2 : Int) ≠ 0 ∧ Fit (n.tdiv 2)), Fit (n - (n.tdiv 2)), (1 ≤ (n - (n.tdiv 2)) ∧ (n - (n.tdiv 2)) ≤ 4096 ∧ 0 ≤ most ∧ most ≤ 1099511627776 ∧ (n - (n.tdiv 2)).toNat ≤ nn), Fit ((Cn.q1k most (n.tdiv 2).toNat) + (Cn.q1k most (n - (n.tdiv 2)).toNat)), Fit (((Cn.q1k most (n.tdiv 2).toNat) + (Cn.q1k most (n - (n.tdiv 2)).toNat)) + (min n most))] ?_ (Zr (Rv hcx (congrArg AV.int (show (((Cn.q1k most (n.tdiv 2).toNat) + (Cn.q1k most (n - (n.tdiv 2)).toNat)) + (min n most)) = (Cn.q1k most n.toNat) from (by exact hr.symm))) [] rfl))))
   ·
    refine ap ?_ (ap ?_ (ap ?_ (ap ?_ (ap ?_ (ap ?_ (ap ?_ az)))))) <;>
     omega
 ·
  cases hσ
theorem j8j : ∀ nn, q0o Tryz.prog 94 (q3y nn) := q9q (z0q (fn := Tryz.f94) Tryz.func94 (by kernel_rfl) rfl (fun args os p r outs hσ hp => by
 unfold q3y at hσ
 split at hσ
 · simp only [Option.some.injEq, Prod.mk.injEq] at hσ
   obtain ⟨rfl, rfl, rfl⟩ := hσ
   omega
 · cases hσ)) j4b
def z0g : CtF
 | [.im (.val (.int .i64 n)), .im (.val (.int .i64 most))], [] => some (1 ≤ n ∧ n ≤ 4096 ∧ 0 ≤ most ∧ most ≤ 1099511627776, .int (Cn.q1k most n.toNat), [])
 | _, _ => none
theorem z0f : q0o Tryz.prog 94 z0g := z5h j8j (fun args os p r outs hσ hp => by
 unfold z0g at hσ
 split at hσ
 · rename_i n most
   simp only [Option.some.injEq, Prod.mk.injEq] at hσ
   obtain ⟨rfl, rfl, rfl⟩ := hσ
   exact ⟨n.toNat, _, rfl, ⟨hp.1, hp.2.1, hp.2.2.1, hp.2.2.2, Nat.le_refl _⟩⟩
 · cases hσ)
def z8a : Cx := ⟨j8n, [], true⟩
theorem j0n : q1g Tryz.prog z8a := q1b q7o trivial
def q9k : CtF
 | [.agg [.row 0, .im (.val (.int .i64 nx))], .im (.ls (.ints a)), .im (.ls (.ints b)), .im (.ls (.ints o)), .im (.val (.int .i64 i)), .im (.val (.int .i64 k))], [.row 22 (.intss C)] => some (C.length ≤ 400000000 ∧ (0 ≤ i ∧ i ≤ a.length) ∧ (0 ≤ k ∧ k ≤ b.length) ∧ (a.length ≤ 4096 ∧ b.length ≤ 4096 ∧ o.length ≤ 4096) ∧ (∀ x ∈ a, -65537 ≤ x ∧ x ≤ 65537) ∧ (∀ x ∈ b, -65537 ≤ x ∧ x ≤ 65537) ∧ (∀ x ∈ o, -65537 ≤ x ∧ x ≤ 65537), .agg [.row 1, .int nx], [none, some (.row 22 (.intss (C ++ Cn.up1 a b o i.toNat k.toNat ++ Cn.dn1 a b o i.toNat k.toNat)))])
 | _, _ => none
theorem q9n : q0o Tryz.prog 133 q9k := by
 refine Sw (cx := z8a) Tryz.f133 Tryz.func133 ?_
 intro wW wO wβ G0 args os p r outs hσ hp
 have hcx := j0n
 unfold q9k at hσ
 split at hσ
 ·
  rename_i nx a b o i k C
  cases hσ
  refine ⟨by kernel_rfl, ?_⟩
  obtain ⟨hC, hi, hk, ⟨l1, l2, l3⟩, ha, hb, ho⟩ := hp
  have ha2 := fun j (h : j < a.length) => ha _ (Cn.q0u (d := (0 : Int)) (k := j) h)
  have hb2 := fun j (h : j < b.length) => hb _ (Cn.q0u (d := (0 : Int)) (k := j) h)
  have ho2 := fun j (h : j < o.length) => ho _ (Cn.q0u (d := (0 : Int)) (k := j) h)
  have hul : (bif (decide (k > 0)) then ((bif (decide (i > 0)) then ([] ++ [(-(a.getD ((i - 1).toNat) 0))]) else []) ++ [(-(b.getD ((k - 1).toNat) 0))]) else (bif (decide (i > 0)) then ([] ++ [(-(a.getD ((i - 1).toNat) 0))]) else [])).length ≤ 2 := Cn.x8i
  have hdl : (bif (decide (k < (b.length : Int))) then ((bif (decide (i < (a.length : Int))) then ([] ++ [(a.getD i.toNat 0)]) else []) ++ [(b.getD k.toNat 0)]) else (bif (decide (i < (a.length : Int))) then ([] ++ [(a.getD i.toNat 0)]) else [])).length ≤ 2 := Cn.x8u
  have q1 := Cn.bl1 (decide (i > 0)) (-(a.getD (i - 1).toNat 0))
  have q2 := Cn.bl1 (decide (i < (a.length : Int))) (a.getD i.toNat 0)
  refine Sz hcx [(1000, .to 606), (1001, .to 612)] [6, 12] [0] [] (Sq hcx [] [13] [] [] [Fit (i + k)] ?_ (Sz hcx [(1000, .to 219)] [14] [] [] ?_))
  ·
   refine ap ?_ az
   omega
  refine q4l (X := Unit) (fun _ => True) (fun _ => [(14, .row 219), (13, .int (i + k)), (6, .loc 606 0), (12, .loc 612 0), (1, .ints a), (2, .ints b), (3, .ints o), (4, .int i), (5, .int k)]) (fun _ => [(0, .row 22 (.intss C)), (606, .box [.row 0, .int nx]), (612, .box [.im (.val (.slice none 0 0)), .int 0]), (219, .row 3 (.ints (bif (decide (i > 0)) then ([] ++ [(-(a.getD ((i - 1).toNat) 0))]) else [])))]) ?_ (fun _ _ => ?_)
  ·
   refine Sz hcx [] [21] [] [] (Zi (b := decide (i > 0)) (fun hb0 => ?_) fun hb0 => ?_)
   ·
    have h0 := of_decide_eq_true hb0
    refine Tq hcx [(1008, .to 219)] [14] [21] [219] [Fit (i - 1), ((0 : Int) ≤ (i - 1) ∧ (i - 1) < (a.length : Int)), Fit (-(a.getD ((i - 1).toNat) 0)), ((([] : List Int).length + [(-(a.getD ((i - 1).toNat) 0))].length) * 8 ≤ 140737488355328)] ?_ (Fn [(0, .to 0), (606, .to 606), (612, .to 612), (219, .to 219)] [14, 13, 6, 12, 1, 2, 3, 4, 5] ?_)
    ·
     refine ap ?_ (ap ?_ (ap ?_ (ap ?_ az))) <;>
      first | omega | (simp only [List.length_cons, List.length_nil, List.length_append, List.length_map, List.length_set, List.length_replicate]; omega) | (have := ha2 (i - 1).toNat (by omega); constructor <;> omega)
    refine q1m () trivial ?_ ?_
    ·
     exact Eb
    ·
     exact Eq.trans (show _ = [(0, .row 22 (.intss C)), (606, .box [.row 0, .int nx]), (612, .box [.im (.val (.slice none 0 0)), .int 0]), (219, .row 3 (.ints ([] ++ [(-(a.getD ((i - 1).toNat) 0))])))] from by kernel_rfl) (by simp only [hb0, cond_true, cond_false])
   ·
    have h0 := of_decide_eq_false hb0
    refine Zk (Fn [(0, .to 0), (606, .to 606), (612, .to 612), (219, .to 219)] [21, 14, 13, 6, 12, 1, 2, 3, 4, 5] ?_)
    refine q1m () trivial ?_ ?_
    ·
     exact Eb
    ·
     exact Eq.trans (show _ = [(0, .row 22 (.intss C)), (606, .box [.row 0, .int nx]), (612, .box [.im (.val (.slice none 0 0)), .int 0]), (219, .row 3 (.ints []))] from by kernel_rfl) (by simp only [hb0, cond_true, cond_false])
  refine Zt ?_
  refine q4l (X := Unit) (fun _ => True) (fun _ => [(14, .row 219), (13, .int (i + k)), (6, .loc 606 0), (12, .loc 612 0), (1, .ints a), (2, .ints b), (3, .ints o), (4, .int i), (5, .int k)]) (fun _ => [(0, .row 22 (.intss C)), (606, .box [.row 0, .int nx]), (612, .box [.im (.val (.slice none 0 0)), .int 0]), (219, .row 3 (.ints (bif (decide (k > 0)) then ((bif (decide (i > 0)) then ([] ++ [(-(a.getD ((i - 1).toNat) 0))]) else []) ++ [(-(b.getD ((k - 1).toNat) 0))]) else (bif (decide (i > 0)) then ([] ++ [(-(a.getD ((i - 1).toNat) 0))]) else []))))]) ?_ (fun _ _ => ?_)
  ·
   refine Sz hcx [] [32] [] [] (Zi (b := decide (k > 0)) (fun hb1 => ?_) fun hb1 => ?_)
   ·
    have h1 := of_decide_eq_true hb1
    refine Tq hcx [(1008, .to 219)] [14] [32] [219] [Fit (k - 1), ((0 : Int) ≤ (k - 1) ∧ (k - 1) < (b.length : Int)), Fit (-(b.getD ((k - 1).toNat) 0)), (((bif (decide (i > 0)) then ([] ++ [(-(a.getD ((i - 1).toNat) 0))]) else []).length + [(-(b.getD ((k - 1).toNat) 0))].length) * 8 ≤ 140737488355328)] ?_ (Fn [(0, .to 0), (606, .to 606), (612, .to 612), (219, .to 219)] [14, 13, 6, 12, 1, 2, 3, 4, 5] ?_)
    ·
     refine ap ?_ (ap ?_ (ap ?_ (ap ?_ az))) <;>
      first | omega | (simp only [List.length_cons, List.length_nil, List.length_append, List.length_map, List.length_set, List.length_replicate]; omega) | (have := hb2 (k - 1).toNat (by omega); constructor <;> omega)
    refine q1m () trivial ?_ ?_
    ·
     exact Eb
    ·
     exact Eq.trans (show _ = [(0, .row 22 (.intss C)), (606, .box [.row 0, .int nx]), (612, .box [.im (.val (.slice none 0 0)), .int 0]), (219, .row 3 (.ints ((bif (decide (i > 0)) then ([] ++ [(-(a.getD ((i - 1).toNat) 0))]) else []) ++ [(-(b.getD ((k - 1).toNat) 0))])))] from by kernel_rfl) (by simp only [hb1, cond_true, cond_false])
   ·
    have h1 := of_decide_eq_false hb1
    refine Zk ?_
    refine q1m () trivial ?_ ?_
    ·
     exact Eb
    ·
     exact Eq.trans (show _ = [(0, .row 22 (.intss C)), (606, .box [.row 0, .int nx]), (612, .box [.im (.val (.slice none 0 0)), .int 0]), (219, .row 3 (.ints (bif (decide (i > 0)) then ([] ++ [(-(a.getD ((i - 1).toNat) 0))]) else [])))] from by kernel_rfl) (by simp only [hb1, cond_true, cond_false])
  refine Zt (Zs (Sq hcx [] [49] [] [] [((decide ((i + k) > 0)) = true → ((decide ((i + k) > 0)) = true)), ((decide ((i + k) > 0)) = true → ((decide ((i + k) > 0)) = true)), ((decide ((i + k) > 0)) = true → ((decide ((i + k) > 0)) = true)), ((decide ((i + k) > 0)) = true → (decide ((i + k) > 0)) = true)] ?_ (Zi (b := (decide ((i + k) > 0)) && (decide ((i + k) ≤ (o.length : Int)))) (fun h2 => ?_) fun h2 => ?_)))
  ·
   refine ap ?_ (ap ?_ (ap ?_ (ap (by exact id) az))) <;>
    exact id
  ·
   have hu := Cn.k6f hi hk h2
   have h49_ := Cn.an2 h2
   refine Sq hcx [(1007, .to 219)] [14] [49] [219] [Fit ((i + k) - 1), ((0 : Int) ≤ ((i + k) - 1) ∧ ((i + k) - 1) < (o.length : Int)), (((bif (decide (k > 0)) then ((bif (decide (i > 0)) then ([] ++ [(-(a.getD ((i - 1).toNat) 0))]) else []) ++ [(-(b.getD ((k - 1).toNat) 0))]) else (bif (decide (i > 0)) then ([] ++ [(-(a.getD ((i - 1).toNat) 0))]) else [])).length + [(o.getD (((i + k) - 1).toNat) 0)].length) * 8 ≤ 140737488355328)] ?_ (Tq hcx [(1004, .to 262), (606, .to 606)] [] [14] [219, 0] [((C.length + [((bif (decide (k > 0)) then ((bif (decide (i > 0)) then ([] ++ [(-(a.getD ((i - 1).toNat) 0))]) else []) ++ [(-(b.getD ((k - 1).toNat) 0))]) else (bif (decide (i > 0)) then ([] ++ [(-(a.getD ((i - 1).toNat) 0))]) else [])) ++ [(o.getD (((i + k) - 1).toNat) 0)])].length) * 24 ≤ 140737488355328)] ?_ (Ft (Sz hcx [(1000, .to 264)] [15] [] [] ?_)))
   ·
    refine ap ?_ (ap ?_ (ap ?_ az)) <;>
     first | omega | (simp only [List.length_cons, List.length_nil, List.length_append, List.length_map, List.length_set, List.length_replicate]; omega)
   ·
    refine ap ?_ az
    (simp only [List.length_cons, List.length_nil, List.length_append, List.length_map, List.length_set, List.length_replicate]; omega)
   refine q4l (X := Unit) (fun _ => True) (fun _ => [(15, .row 264), (13, .int (i + k)), (6, .loc 606 0), (12, .loc 612 0), (2, .ints b), (3, .ints o), (5, .int k)]) (fun _ => [(262, .row 22 (.intss (C ++ [((bif (decide (k > 0)) then ((bif (decide (i > 0)) then ([] ++ [(-(a.getD ((i - 1).toNat) 0))]) else []) ++ [(-(b.getD ((k - 1).toNat) 0))]) else (bif (decide (i > 0)) then ([] ++ [(-(a.getD ((i - 1).toNat) 0))]) else [])) ++ [(o.getD (((i + k) - 1).toNat) 0)])]))), (606, .box [.row 262, .int nx]), (612, .box [.im (.val (.slice none 0 0)), .int 0]), (264, .row 3 (.ints (bif (decide (i < (a.length : Int))) then ([] ++ [(a.getD i.toNat 0)]) else [])))]) ?_ (fun _ _ => ?_)
   ·
    refine Sz hcx [] [68] [] [] (Zi (b := decide (i < (a.length : Int))) (fun hb3 => ?_) fun hb3 => ?_)
    ·
     have h3 := of_decide_eq_true hb3
     refine Tq hcx [(1006, .to 264)] [15] [68, 1, 4] [264] [((0 : Int) ≤ i ∧ i < (a.length : Int)), ((([] : List Int).length + [(a.getD i.toNat 0)].length) * 8 ≤ 140737488355328)] ?_ (Fn [(262, .to 262), (606, .to 606), (612, .to 612), (264, .to 264)] [15, 13, 6, 12, 2, 3, 5] ?_)
     ·
      refine ap ?_ (ap ?_ az) <;>
       first | omega | (simp only [List.length_cons, List.length_nil, List.length_append, List.length_map, List.length_set, List.length_replicate]; omega)
     refine q1m () trivial ?_ ?_
     ·
      exact Eb
     ·
      exact Eq.trans (show _ = [(262, .row 22 (.intss (C ++ [((bif (decide (k > 0)) then ((bif (decide (i > 0)) then ([] ++ [(-(a.getD ((i - 1).toNat) 0))]) else []) ++ [(-(b.getD ((k - 1).toNat) 0))]) else (bif (decide (i > 0)) then ([] ++ [(-(a.getD ((i - 1).toNat) 0))]) else [])) ++ [(o.getD (((i + k) - 1).toNat) 0)])]))), (606, .box [.row 262, .int nx]), (612, .box [.im (.val (.slice none 0 0)), .int 0]), (264, .row 3 (.ints ([] ++ [(a.getD i.toNat 0)])))] from by kernel_rfl) (by simp only [hb3, cond_true, cond_false])
    ·
     have h3 := of_decide_eq_false hb3
     refine Zk (Fn [(262, .to 262), (606, .to 606), (612, .to 612), (264, .to 264)] [68, 15, 13, 6, 12, 1, 2, 3, 4, 5] ?_)
     refine q1m () trivial ?_ ?_
     ·
      exact Eb
     ·
      exact Eq.trans (show _ = [(262, .row 22 (.intss (C ++ [((bif (decide (k > 0)) then ((bif (decide (i > 0)) then ([] ++ [(-(a.getD ((i - 1).toNat) 0))]) else []) ++ [(-(b.getD ((k - 1).toNat) 0))]) else (bif (decide (i > 0)) then ([] ++ [(-(a.getD ((i - 1).toNat) 0))]) else [])) ++ [(o.getD (((i + k) - 1).toNat) 0)])]))), (606, .box [.row 262, .int nx]), (612, .box [.im (.val (.slice none 0 0)), .int 0]), (264, .row 3 (.ints []))] from by kernel_rfl) (by simp only [hb3, cond_true, cond_false])
   refine Zt ?_
   refine q4l (X := Unit) (fun _ => True) (fun _ => [(15, .row 264), (13, .int (i + k)), (6, .loc 606 0), (12, .loc 612 0), (3, .ints o)]) (fun _ => [(262, .row 22 (.intss (C ++ [((bif (decide (k > 0)) then ((bif (decide (i > 0)) then ([] ++ [(-(a.getD ((i - 1).toNat) 0))]) else []) ++ [(-(b.getD ((k - 1).toNat) 0))]) else (bif (decide (i > 0)) then ([] ++ [(-(a.getD ((i - 1).toNat) 0))]) else [])) ++ [(o.getD (((i + k) - 1).toNat) 0)])]))), (606, .box [.row 262, .int nx]), (612, .box [.im (.val (.slice none 0 0)), .int 0]), (264, .row 3 (.ints (bif (decide (k < (b.length : Int))) then ((bif (decide (i < (a.length : Int))) then ([] ++ [(a.getD i.toNat 0)]) else []) ++ [(b.getD k.toNat 0)]) else (bif (decide (i < (a.length : Int))) then ([] ++ [(a.getD i.toNat 0)]) else []))))]) ?_ (fun _ _ => ?_)
   ·
    refine Sz hcx [] [79] [] [] (Zi (b := decide (k < (b.length : Int))) (fun hb4 => ?_) fun hb4 => ?_)
    ·
     have h4 := of_decide_eq_true hb4
     refine Tq hcx [(1006, .to 264)] [15] [79, 2, 5] [264] [((0 : Int) ≤ k ∧ k < (b.length : Int)), (((bif (decide (i < (a.length : Int))) then ([] ++ [(a.getD i.toNat 0)]) else []).length + [(b.getD k.toNat 0)].length) * 8 ≤ 140737488355328)] ?_ (Fn [(262, .to 262), (606, .to 606), (612, .to 612), (264, .to 264)] [15, 13, 6, 12, 3] ?_)
     ·
      refine ap ?_ (ap ?_ az) <;>
       first | omega | (simp only [List.length_cons, List.length_nil, List.length_append, List.length_map, List.length_set, List.length_replicate]; omega)
     refine q1m () trivial ?_ ?_
     ·
      exact Eb
     ·
      exact Eq.trans (show _ = [(262, .row 22 (.intss (C ++ [((bif (decide (k > 0)) then ((bif (decide (i > 0)) then ([] ++ [(-(a.getD ((i - 1).toNat) 0))]) else []) ++ [(-(b.getD ((k - 1).toNat) 0))]) else (bif (decide (i > 0)) then ([] ++ [(-(a.getD ((i - 1).toNat) 0))]) else [])) ++ [(o.getD (((i + k) - 1).toNat) 0)])]))), (606, .box [.row 262, .int nx]), (612, .box [.im (.val (.slice none 0 0)), .int 0]), (264, .row 3 (.ints ((bif (decide (i < (a.length : Int))) then ([] ++ [(a.getD i.toNat 0)]) else []) ++ [(b.getD k.toNat 0)])))] from by kernel_rfl) (by simp only [hb4, cond_true, cond_false])
    ·
     have h4 := of_decide_eq_false hb4
     refine Zk ?_
     refine q1m () trivial ?_ ?_
     ·
      exact Eb
     ·
      exact Eq.trans (show _ = [(262, .row 22 (.intss (C ++ [((bif (decide (k > 0)) then ((bif (decide (i > 0)) then ([] ++ [(-(a.getD ((i - 1).toNat) 0))]) else []) ++ [(-(b.getD ((k - 1).toNat) 0))]) else (bif (decide (i > 0)) then ([] ++ [(-(a.getD ((i - 1).toNat) 0))]) else [])) ++ [(o.getD (((i + k) - 1).toNat) 0)])]))), (606, .box [.row 262, .int nx]), (612, .box [.im (.val (.slice none 0 0)), .int 0]), (264, .row 3 (.ints (bif (decide (i < (a.length : Int))) then ([] ++ [(a.getD i.toNat 0)]) else [])))] from by kernel_rfl) (by simp only [hb4, cond_true, cond_false])
   refine Zt (Zs (Sz hcx [] [90] [] [] (Zj (p := ((i + k) < (o.length : Int))) (fun h5 => ?_) fun h5 => ?_)))
   ·
    have hd := Cn.k4t hi hk h5
    refine Sq hcx [(1007, .to 264)] [15] [90, 13, 3] [264] [((0 : Int) ≤ (i + k) ∧ (i + k) < (o.length : Int)), Fit (-(o.getD ((i + k).toNat) 0)), (((bif (decide (k < (b.length : Int))) then ((bif (decide (i < (a.length : Int))) then ([] ++ [(a.getD i.toNat 0)]) else []) ++ [(b.getD k.toNat 0)]) else (bif (decide (i < (a.length : Int))) then ([] ++ [(a.getD i.toNat 0)]) else [])).length + [(-(o.getD ((i + k).toNat) 0))].length) * 8 ≤ 140737488355328)] ?_ (Tq hcx [(1004, .to 262), (606, .to 606)] [] [15] [264, 262] [(((C ++ [((bif (decide (k > 0)) then ((bif (decide (i > 0)) then ([] ++ [(-(a.getD ((i - 1).toNat) 0))]) else []) ++ [(-(b.getD ((k - 1).toNat) 0))]) else (bif (decide (i > 0)) then ([] ++ [(-(a.getD ((i - 1).toNat) 0))]) else [])) ++ [(o.getD (((i + k) - 1).toNat) 0)])]).length + [((bif (decide (k < (b.length : Int))) then ((bif (decide (i < (a.length : Int))) then ([] ++ [(a.getD i.toNat 0)]) else []) ++ [(b.getD k.toNat 0)]) else (bif (decide (i < (a.length : Int))) then ([] ++ [(a.getD i.toNat 0)]) else [])) ++ [(-(o.getD ((i + k).toNat) 0))])].length) * 24 ≤ 140737488355328)] ?_ (Ft (Sz hcx [(612, .to 612)] [] [6] [606] (Zr (Fn [(262, .to 1), (612, .to 990)] [12] (Rv hcx rfl [false, true] (q0r rfl (q0r (congrArg some (congrArg (fun x => q0d.row 22 (.intss x)) (show ((C ++ [((bif (decide (k > 0)) then ((bif (decide (i > 0)) then ([] ++ [(-(a.getD ((i - 1).toNat) 0))]) else []) ++ [(-(b.getD ((k - 1).toNat) 0))]) else (bif (decide (i > 0)) then ([] ++ [(-(a.getD ((i - 1).toNat) 0))]) else [])) ++ [(o.getD (((i + k) - 1).toNat) 0)])]) ++ [((bif (decide (k < (b.length : Int))) then ((bif (decide (i < (a.length : Int))) then ([] ++ [(a.getD i.toNat 0)]) else []) ++ [(b.getD k.toNat 0)]) else (bif (decide (i < (a.length : Int))) then ([] ++ [(a.getD i.toNat 0)]) else [])) ++ [(-(o.getD ((i + k).toNat) 0))])]) = (C ++ Cn.up1 a b o i.toNat k.toNat ++ Cn.dn1 a b o i.toNat k.toNat) from (by first | exact Cn.x3g hu hd | exact Cn.x2a hu hd | exact Cn.x3j hu hd | exact Cn.x4l hu hd)))) rfl))))))))
    ·
     refine ap ?_ (ap ?_ (ap ?_ az)) <;>
      first | omega | (simp only [List.length_cons, List.length_nil, List.length_append, List.length_map, List.length_set, List.length_replicate]; omega) | (have := ho2 (i + k).toNat (by omega); constructor <;> omega)
    ·
     refine ap ?_ az
     (simp only [List.length_cons, List.length_nil, List.length_append, List.length_map, List.length_set, List.length_replicate]; omega)
   ·
    have hd := Cn.k3s (a := a) (b := b) hi.1 hk.1 h5
    exact Zk (Ft (Sz hcx [(612, .to 612)] [] [90, 15, 13, 6, 3] [606, 264] (Zr (Fn [(262, .to 1), (612, .to 990)] [12] (Rv hcx rfl [false, true] (q0r rfl (q0r (congrArg some (congrArg (fun x => q0d.row 22 (.intss x)) (show (C ++ [((bif (decide (k > 0)) then ((bif (decide (i > 0)) then ([] ++ [(-(a.getD ((i - 1).toNat) 0))]) else []) ++ [(-(b.getD ((k - 1).toNat) 0))]) else (bif (decide (i > 0)) then ([] ++ [(-(a.getD ((i - 1).toNat) 0))]) else [])) ++ [(o.getD (((i + k) - 1).toNat) 0)])]) = (C ++ Cn.up1 a b o i.toNat k.toNat ++ Cn.dn1 a b o i.toNat k.toNat) from (by first | exact Cn.x3g hu hd | exact Cn.x2a hu hd | exact Cn.x3j hu hd | exact Cn.x4l hu hd)))) rfl)))))))
  ·
   have hu := Cn.k7k (a := a) (b := b) hi.1 hk.1 h2
   refine Zk (Ft (Sz hcx [(1000, .to 264)] [15] [49, 14] [219] ?_))
   refine q4l (X := Unit) (fun _ => True) (fun _ => [(15, .row 264), (13, .int (i + k)), (6, .loc 606 0), (12, .loc 612 0), (2, .ints b), (3, .ints o), (5, .int k)]) (fun _ => [(0, .row 22 (.intss C)), (606, .box [.row 0, .int nx]), (612, .box [.im (.val (.slice none 0 0)), .int 0]), (264, .row 3 (.ints (bif (decide (i < (a.length : Int))) then ([] ++ [(a.getD i.toNat 0)]) else [])))]) ?_ (fun _ _ => ?_)
   ·
    refine Sz hcx [] [68] [] [] (Zi (b := decide (i < (a.length : Int))) (fun hb6 => ?_) fun hb6 => ?_)
    ·
     have h6 := of_decide_eq_true hb6
     refine Tq hcx [(1006, .to 264)] [15] [68, 1, 4] [264] [((0 : Int) ≤ i ∧ i < (a.length : Int)), ((([] : List Int).length + [(a.getD i.toNat 0)].length) * 8 ≤ 140737488355328)] ?_ (Fn [(0, .to 0), (606, .to 606), (612, .to 612), (264, .to 264)] [15, 13, 6, 12, 2, 3, 5] ?_)
     ·
      refine ap ?_ (ap ?_ az) <;>
       first | omega | (simp only [List.length_cons, List.length_nil, List.length_append, List.length_map, List.length_set, List.length_replicate]; omega)
     refine q1m () trivial ?_ ?_
     ·
      exact Eb
     ·
      exact Eq.trans (show _ = [(0, .row 22 (.intss C)), (606, .box [.row 0, .int nx]), (612, .box [.im (.val (.slice none 0 0)), .int 0]), (264, .row 3 (.ints ([] ++ [(a.getD i.toNat 0)])))] from by kernel_rfl) (by simp only [hb6, cond_true, cond_false])
    ·
     have h6 := of_decide_eq_false hb6
     refine Zk (Fn [(0, .to 0), (606, .to 606), (612, .to 612), (264, .to 264)] [68, 15, 13, 6, 12, 1, 2, 3, 4, 5] ?_)
     refine q1m () trivial ?_ ?_
     ·
      exact Eb
     ·
      exact Eq.trans (show _ = [(0, .row 22 (.intss C)), (606, .box [.row 0, .int nx]), (612, .box [.im (.val (.slice none 0 0)), .int 0]), (264, .row 3 (.ints []))] from by kernel_rfl) (by simp only [hb6, cond_true, cond_false])
   refine Zt ?_
   refine q4l (X := Unit) (fun _ => True) (fun _ => [(15, .row 264), (13, .int (i + k)), (6, .loc 606 0), (12, .loc 612 0), (3, .ints o)]) (fun _ => [(0, .row 22 (.intss C)), (606, .box [.row 0, .int nx]), (612, .box [.im (.val (.slice none 0 0)), .int 0]), (264, .row 3 (.ints (bif (decide (k < (b.length : Int))) then ((bif (decide (i < (a.length : Int))) then ([] ++ [(a.getD i.toNat 0)]) else []) ++ [(b.getD k.toNat 0)]) else (bif (decide (i < (a.length : Int))) then ([] ++ [(a.getD i.toNat 0)]) else []))))]) ?_ (fun _ _ => ?_)
   ·
    refine Sz hcx [] [79] [] [] (Zi (b := decide (k < (b.length : Int))) (fun hb7 => ?_) fun hb7 => ?_)
    ·
     have h7 := of_decide_eq_true hb7
     refine Tq hcx [(1006, .to 264)] [15] [79, 2, 5] [264] [((0 : Int) ≤ k ∧ k < (b.length : Int)), (((bif (decide (i < (a.length : Int))) then ([] ++ [(a.getD i.toNat 0)]) else []).length + [(b.getD k.toNat 0)].length) * 8 ≤ 140737488355328)] ?_ (Fn [(0, .to 0), (606, .to 606), (612, .to 612), (264, .to 264)] [15, 13, 6, 12, 3] ?_)
     ·
      refine ap ?_ (ap ?_ az) <;>
       first | omega | (simp only [List.length_cons, List.length_nil, List.length_append, List.length_map, List.length_set, List.length_replicate]; omega)
     refine q1m () trivial ?_ ?_
     ·
      exact Eb
     ·
      exact Eq.trans (show _ = [(0, .row 22 (.intss C)), (606, .box [.row 0, .int nx]), (612, .box [.im (.val (.slice none 0 0)), .int 0]), (264, .row 3 (.ints ((bif (decide (i < (a.length : Int))) then ([] ++ [(a.getD i.toNat 0)]) else []) ++ [(b.getD k.toNat 0)])))] from by kernel_rfl) (by simp only [hb7, cond_true, cond_false])
    ·
     have h7 := of_decide_eq_false hb7
     refine Zk ?_
     refine q1m () trivial ?_ ?_
     ·
      exact Eb
     ·
      exact Eq.trans (show _ = [(0, .row 22 (.intss C)), (606, .box [.row 0, .int nx]), (612, .box [.im (.val (.slice none 0 0)), .int 0]), (264, .row 3 (.ints (bif (decide (i < (a.length : Int))) then ([] ++ [(a.getD i.toNat 0)]) else [])))] from by kernel_rfl) (by simp only [hb7, cond_true, cond_false])
   refine Zt (Zs (Sz hcx [] [90] [] [] (Zj (p := ((i + k) < (o.length : Int))) (fun h8 => ?_) fun h8 => ?_)))
   ·
    have hd := Cn.k4t hi hk h8
    refine Sq hcx [(1007, .to 264)] [15] [90, 13, 3] [264] [((0 : Int) ≤ (i + k) ∧ (i + k) < (o.length : Int)), Fit (-(o.getD ((i + k).toNat) 0)), (((bif (decide (k < (b.length : Int))) then ((bif (decide (i < (a.length : Int))) then ([] ++ [(a.getD i.toNat 0)]) else []) ++ [(b.getD k.toNat 0)]) else (bif (decide (i < (a.length : Int))) then ([] ++ [(a.getD i.toNat 0)]) else [])).length + [(-(o.getD ((i + k).toNat) 0))].length) * 8 ≤ 140737488355328)] ?_ (Tq hcx [(1004, .to 303), (606, .to 606)] [] [15] [264, 0] [((C.length + [((bif (decide (k < (b.length : Int))) then ((bif (decide (i < (a.length : Int))) then ([] ++ [(a.getD i.toNat 0)]) else []) ++ [(b.getD k.toNat 0)]) else (bif (decide (i < (a.length : Int))) then ([] ++ [(a.getD i.toNat 0)]) else [])) ++ [(-(o.getD ((i + k).toNat) 0))])].length) * 24 ≤ 140737488355328)] ?_ (Ft (Sz hcx [(612, .to 612)] [] [6] [606] (Zr (Fn [(303, .to 1), (612, .to 990)] [12] (Rv hcx rfl [false, true] (q0r rfl (q0r (congrArg some (congrArg (fun x => q0d.row 22 (.intss x)) (show (C ++ [((bif (decide (k < (b.length : Int))) then ((bif (decide (i < (a.length : Int))) then ([] ++ [(a.getD i.toNat 0)]) else []) ++ [(b.getD k.toNat 0)]) else (bif (decide (i < (a.length : Int))) then ([] ++ [(a.getD i.toNat 0)]) else [])) ++ [(-(o.getD ((i + k).toNat) 0))])]) = (C ++ Cn.up1 a b o i.toNat k.toNat ++ Cn.dn1 a b o i.toNat k.toNat) from (by first | exact Cn.x3g hu hd | exact Cn.x2a hu hd | exact Cn.x3j hu hd | exact Cn.x4l hu hd)))) rfl))))))))
    ·
     refine ap ?_ (ap ?_ (ap ?_ az)) <;>
      first | omega | (simp only [List.length_cons, List.length_nil, List.length_append, List.length_map, List.length_set, List.length_replicate]; omega) | (have := ho2 (i + k).toNat (by omega); constructor <;> omega)
    ·
     refine ap ?_ az
     (simp only [List.length_cons, List.length_nil, List.length_append, List.length_map, List.length_set, List.length_replicate]; omega)
   ·
    have hd := Cn.k3s (a := a) (b := b) hi.1 hk.1 h8
    exact Zk (Ft (Sz hcx [(612, .to 612)] [] [90, 15, 13, 6, 3] [606, 264] (Zr (Fn [(0, .to 1), (612, .to 990)] [12] (Rv hcx rfl [false, true] (q0r rfl (q0r (congrArg some (congrArg (fun x => q0d.row 22 (.intss x)) (show C = (C ++ Cn.up1 a b o i.toNat k.toNat ++ Cn.dn1 a b o i.toNat k.toNat) from (by first | exact Cn.x3g hu hd | exact Cn.x2a hu hd | exact Cn.x3j hu hd | exact Cn.x4l hu hd)))) rfl)))))))
 ·
  cases hσ
def q3e (nn : Nat) : CtF
 | [.agg [.row 0, .im (.val (.int .i64 nx))], .im (.ls (.ints l)), .im (.val (.int .i64 most))], [.row 22 (.intss C)] => some ((1 ≤ l.length ∧ l.length ≤ 4096) ∧ (∀ x ∈ l, -65537 ≤ x ∧ x ≤ 65537) ∧ (0 ≤ most ∧ most ≤ 1099511627776) ∧ 1 ≤ nx ∧ nx + Cn.q1k most l.length ≤ 65537 ∧ C.length + 8 * (l.length * l.length) ≤ 300000000 ∧ l.length ≤ nn, .tup [.agg [.row 1, .int ((Cn.rtT most l (nx, C)).2.1)], .ints ((Cn.rtT most l (nx, C)).1)], [none, some (.row 22 (.intss ((Cn.rtT most l (nx, C)).2.2)))])
 | _, _ => none
def z3x (nn : Nat) : Cx := ⟨j8n, [(40, (q2g [.ld (.ints []), .id] q4y)), (94, z0g), (133, (q2g [.agg [.id, .id], .ld (.ints []), .ld (.ints []), .ld (.ints []), .id, .id] q9k)), (95, (q2g [.agg [.id, .id], .ld (.ints []), .id] (q3e nn)))], true⟩
theorem z6l (nn : Nat) (hR : q0o Tryz.prog 95 (q3e nn)) : q1g Tryz.prog (z3x nn) := q1b q7o ⟨(q3u.coe [.ld (.ints []), .id] rfl), z0f, (q9n.coe [.agg [.id, .id], .ld (.ints []), .ld (.ints []), .ld (.ints []), .id, .id] rfl), (hR.coe [.agg [.id, .id], .ld (.ints []), .id] rfl), trivial⟩
set_option maxRecDepth 4000 in
set_option maxHeartbeats 4000000 in
theorem j0r (nn : Nat) (hR : q0o Tryz.prog 95 (q3e nn)) : q0o Tryz.prog 95 (q3e (nn + 1)) := by
 refine Sw (cx := (z3x nn)) Tryz.f95 Tryz.func95 ?_
 intro wW wO wβ G0 args os p r outs hσ hp
 have hcx := z6l nn hR
 have hmx : Tryz.prog.follows .mixedOrders = true := by kernel_rfl
 unfold q3e at hσ
 split at hσ
 ·
  rename_i nx l most C
  cases hσ
  refine ⟨by kernel_rfl, ?_⟩
  obtain ⟨⟨hl1, hl2⟩, hx, ⟨hm1, hm2⟩, hn1, hq, hC, hsz⟩ := hp
  have hd : (l.length : Int).tdiv 2 = ((l.length / 2 : Nat) : Int) := Cn.x0k l
  refine Sz hcx [(1000, .to 603), (1001, .to 606)] [3, 6] [0] [] (Zs (Sz hcx [] [17] [] [] (Zu (a := (l.length : Int)) (b := 1) (fun h0 => ?_) fun h0 => ?_)))
  ·
   have hr := Cn.y1q (most := most) (s := (nx, C)) (l := l) (by have := h0; omega)
   have h1_ := Cn.j9x (l := l) (by have := h0; omega)
   refine Sd hcx hmx [0, 0, 2, 6, 14, 1, 63] [(1004, .to 222), (606, .to 606)] [7] [17, 3, 1, 2] [603] [((0 : Int) ≤ 0 ∧ 0 < (l.length : Int))] ?_ (Zr (Fr (Fn [(0, .to 1), (606, .to 990), (222, .frz)] [6, 7] (Rv hcx (congrArg AV.tup (q0c (congrArg AV.agg (q0c rfl (q0c (congrArg AV.int (show nx = (Cn.rtT most l (nx, C)).2.1 from (by first | (rw [hr]; done) | (rw [hr]; exact h1_) | (rw [hr]; omega) | (rw [hr]; simp; omega)))) rfl))) (q0c (congrArg AV.ints (show [(l.getD 0 0)] = (Cn.rtT most l (nx, C)).1 from (by first | (rw [hr]; done) | (rw [hr]; exact h1_) | (rw [hr]; omega) | (rw [hr]; simp; omega)))) rfl))) [false, true] (q0r rfl (q0r (congrArg some (congrArg (fun x => q0d.row 22 (.intss x)) (show C = (Cn.rtT most l (nx, C)).2.2 from (by first | (rw [hr]; done) | (rw [hr]))))) rfl))))))
   ·
    refine ap ?_ az
    omega
  ·
   have h2_ : 2 ≤ l.length := by have := h0; omega
   have hr := Cn.y6a (most := most) (nx := nx) (C := C) h2_
   have hst := Cn.y5i hm1 h2_ hl2 hn1 hq hx hC
   obtain ⟨⟨sa1, sa2, sa3, sa4, sa5⟩, ⟨sb1, sb2, sb3, sb4, sb5, sb6⟩, ⟨ra1, ra2, ra3⟩, ⟨rb1, rb2, rb3⟩, hsum, hvm⟩ := hst
   have sa6 : ((l.take (((l.length : Int).tdiv 2).toNat)).drop 0).length < l.length := sa3
   have sb7 : ((l.take l.length).drop (((l.length : Int).tdiv 2).toNat)).length < l.length := sb3
   refine Zk (Ft (Sq hcx [] [8] [17] [] [((2 : Int) ≠ 0 ∧ Fit ((l.length : Int).tdiv 2))] ?_ (Sd hcx hmx [0, 0, 0, 6, 0, 31, 63, 127, 127, 255, 1023] [(1005, .to 232), (603, .to 603)] [9] [] [0] [((0 : Int) ≤ ((l.length : Int).tdiv 2) ∧ ((l.length : Int).tdiv 2) ≤ (l.length : Int)), ((1 ≤ ((l.take (((l.length : Int).tdiv 2).toNat)).drop 0).length ∧ ((l.take (((l.length : Int).tdiv 2).toNat)).drop 0).length ≤ 4096) ∧ (∀ x ∈ ((l.take (((l.length : Int).tdiv 2).toNat)).drop 0), -65537 ≤ x ∧ x ≤ 65537) ∧ (0 ≤ most ∧ most ≤ 1099511627776) ∧ 1 ≤ nx ∧ nx + Cn.q1k most ((l.take (((l.length : Int).tdiv 2).toNat)).drop 0).length ≤ 65537 ∧ C.length + 8 * (((l.take (((l.length : Int).tdiv 2).toNat)).drop 0).length * ((l.take (((l.length : Int).tdiv 2).toNat)).drop 0).length) ≤ 300000000 ∧ ((l.take (((l.length : Int).tdiv 2).toNat)).drop 0).length ≤ nn)] ?_ (Sd hcx hmx [0, 0, 0, 6, 0, 31, 63, 127, 127, 255, 1023] [(1005, .to 232), (603, .to 603)] [10] [8] [232] [((0 : Int) ≤ ((l.length : Int).tdiv 2) ∧ ((l.length : Int).tdiv 2) ≤ (l.length : Int)), ((1 ≤ ((l.take l.length).drop (((l.length : Int).tdiv 2).toNat)).length ∧ ((l.take l.length).drop (((l.length : Int).tdiv 2).toNat)).length ≤ 4096) ∧ (∀ x ∈ ((l.take l.length).drop (((l.length : Int).tdiv 2).toNat)), -65537 ≤ x ∧ x ≤ 65537) ∧ (0 ≤ most ∧ most ≤ 1099511627776) ∧ 1 ≤ ((Cn.rA most l nx C).2.1) ∧ ((Cn.rA most l nx C).2.1) + Cn.q1k most ((l.take l.length).drop (((l.length : Int).tdiv 2).toNat)).length ≤ 65537 ∧ ((Cn.rA most l nx C).2.2).length + 8 * (((l.take l.length).drop (((l.length : Int).tdiv 2).toNat)).length * ((l.take l.length).drop (((l.length : Int).tdiv 2).toNat)).length) ≤ 300000000 ∧ ((l.take l.length).drop (((l.length : Int).tdiv 2).toNat)).length ≤ nn)] ?_ (Sz hcx [(1000, .to 244)] [11] [] [] (Zs (Sz hcx [] [12] [] [] (Zb (Zn [(603, .to 603), (606, .to 606), (244, .to 700), (232, .to 701)] [1, 2, 3, 6, 9, 10, 11, 12] (Lp (X := Nat) (fun x0 => x0 ≤ (min (l.length : Int) most).toNat) (fun x0 => ([(1, .ints l), (2, .int most), (3, .loc 603 0), (6, .loc 606 0), (9, .ints ((Cn.rA most l nx C).1)), (10, .ints ((Cn.rB most l nx C).1)), (11, .row 700), (12, .int (x0 : Int))], [(603, .box [.row 701, .int ((Cn.rB most l nx C).2.1 + (x0 : Int))]), (606, .box [.im (.val (.slice none 0 0)), .int 0]), (700, .row 3 (.ints (Cn.q0f (Cn.rB most l nx C).2.1 x0))), (701, .row 22 (.intss ((Cn.rB most l nx C).2.2)))])) (fun x0 => (min (l.length : Int) most).toNat - x0) (0) ?_ (Ex 12 (congrArg AV.int (show 0 = (0 : Int) from (by first | rfl | omega | (simp; done)))) Eb) (Hx 603 (o := .box [.row 701, .int ((Cn.rB most l nx C).2.1)]) (o' := .box [.row 701, .int ((Cn.rB most l nx C).2.1 + (0 : Int))]) (congrArg q0d.box (q0c rfl (q0c (congrArg AV.int (show (Cn.rB most l nx C).2.1 = ((Cn.rB most l nx C).2.1 + (0 : Int)) from (by omega))) rfl))) (Hx 701 (congrArg (fun x => q0d.row 22 (.intss x)) (show (Cn.rB most l nx C).2.2 = (Cn.rB most l nx C).2.2 from (by first | rfl | (simp; done)))) Hb)) fun i hI => ?_))))))))))
   ·
    refine ap ?_ az
    omega
   ·
    refine ap ?_ (ap ?_ az) <;>
     first | omega | exact ⟨sa1, sa2, ⟨hm1, hm2⟩, hn1, sa4, sa5, by omega⟩
   ·
    refine ap ?_ (ap ?_ az) <;>
     first | omega | exact ⟨sb1, sb2, ⟨hm1, hm2⟩, sb4, sb5, sb6, by omega⟩
   ·
    show 0 ≤ (min (l.length : Int) most).toNat
    omega
   ·
    try dsimp only at hI
    have hoi := Cn.q3w (Cn.rB most l nx C).2.1 i
    refine Zs (Sq hcx [] [53] [] [] [((decide ((i : Int) < (l.length : Int))) = true → ((decide ((i : Int) < (l.length : Int))) = true)), ((decide ((i : Int) < (l.length : Int))) = true → ((decide ((i : Int) < (l.length : Int))) = true)), ((decide ((i : Int) < (l.length : Int))) = true → (decide ((i : Int) < (l.length : Int))) = true)] ?_ (Zi (b := (decide ((i : Int) < (l.length : Int))) && (decide ((i : Int) < most))) (fun h1 => ?_) fun h1 => ?_))
    ·
     refine ap ?_ (ap ?_ (ap (by exact id) az)) <;>
      exact id
    ·
     have h53_ : i < (min (l.length : Int) most).toNat := Cn.k4r h1
     refine Zk (Ft (Zs (Zb (Sq hcx [(1004, .to 700)] [11] [53] [700] [(((Cn.q0f (Cn.rB most l nx C).2.1 i).length + [((Cn.rB most l nx C).2.1 + (i : Int))].length) * 8 ≤ 140737488355328)] ?_ (Tq hcx [(603, .to 603)] [] [] [] [Fit (((Cn.rB most l nx C).2.1 + (i : Int)) + 1)] ?_ (Fb (Ft (Tq hcx [] [12] [] [] [Fit ((i : Int) + 1)] ?_ (Fn [(603, .to 603), (606, .to 606), (700, .to 700), (701, .to 701)] [1, 2, 3, 6, 9, 10, 11, 12] (Lr (i + 1) ?_ ?_ (Ex 12 (congrArg AV.int (show ((i : Int) + 1) = ((i + 1) : Int) from (by first | rfl | omega | (simp; done)))) Eb) (Hx 603 (o := .box [.row 701, .int (((Cn.rB most l nx C).2.1 + (i : Int)) + 1)]) (o' := .box [.row 701, .int ((Cn.rB most l nx C).2.1 + ((i + 1) : Int))]) (congrArg q0d.box (q0c rfl (q0c (congrArg AV.int (show (((Cn.rB most l nx C).2.1 + (i : Int)) + 1) = ((Cn.rB most l nx C).2.1 + ((i + 1) : Int)) from (by omega))) rfl))) (Hx 700 (congrArg (fun x => q0d.row 3 (.ints x)) (show ((Cn.q0f (Cn.rB most l nx C).2.1 i) ++ [((Cn.rB most l nx C).2.1 + (i : Int))]) = (Cn.q0f (Cn.rB most l nx C).2.1 (i + 1)) from (by exact Cn.j3l))) Hb))))))))))))
     ·
      refine ap ?_ az
      (simp only [List.length_cons, List.length_nil, List.length_append, List.length_map, List.length_set, List.length_replicate]; omega)
     ·
      refine ap ?_ az
      omega
     ·
      refine ap ?_ az
      omega
     ·
      try dsimp only
      omega
     ·
      try dsimp only
      omega
    ·
     have h53_ : min (l.length : Int) most = (i : Int) := Cn.x6l hI h1
     rw [h53_, Int.toNat_natCast] at hr
     have hol : (Cn.q0f (Cn.rB most l nx C).2.1 i).length = i := Cn.q3w _ _
     have hob : (∀ x ∈ (Cn.q0f (Cn.rB most l nx C).2.1 i), -65537 ≤ x ∧ x ≤ 65537) := fun x hx => by have := Cn.z2k hx; omega
     refine Ze (Fe (Fe (Fs (Ft (Zs (Zs (Zn [(603, .to 603), (606, .to 606), (701, .to 701), (700, .frz)] [53, 1, 2, 3, 6, 9, 10, 11, 12] (Tz hcx [] [13] [53, 1, 2, 12] [] (Ft (Zb (Zn [(603, .to 603), (606, .to 606), (701, .to 702)] [3, 6, 9, 10, 11, 13] (Lp (X := Nat) (fun x0 => x0 ≤ (Cn.rA most l nx C).1.length + 1) (fun x0 => ([(3, .loc 603 0), (6, .loc 606 0), (9, .ints ((Cn.rA most l nx C).1)), (10, .ints ((Cn.rB most l nx C).1)), (11, .ints (Cn.q0f (Cn.rB most l nx C).2.1 i)), (13, .int (x0 : Int))], [(603, .box [.row 702, .int ((Cn.rB most l nx C).2.1 + (i : Int))]), (606, .box [.im (.val (.slice none 0 0)), .int 0]), (702, .row 22 (.intss ((Cn.rB most l nx C).2.2 ++ Cn.q3c (Cn.rA most l nx C).1 (Cn.rB most l nx C).1 (Cn.q0f (Cn.rB most l nx C).2.1 i) x0)))])) (fun x0 => (Cn.rA most l nx C).1.length + 1 - x0) (0) ?_ (Ex 13 (congrArg AV.int (show 0 = (0 : Int) from (by first | rfl | omega | (simp; done)))) Eb) (Hx 702 (congrArg (fun x => q0d.row 22 (.intss x)) (show (Cn.rB most l nx C).2.2 = ((Cn.rB most l nx C).2.2 ++ Cn.q3c (Cn.rA most l nx C).1 (Cn.rB most l nx C).1 (Cn.q0f (Cn.rB most l nx C).2.1 i) 0) from (by exact (List.append_nil _).symm))) Hb) fun j hI => ?_))))))))))))
     ·
      show 0 ≤ (Cn.rA most l nx C).1.length + 1
      omega
     ·
      try dsimp only at hI
      refine Zs (Sz hcx [] [68] [] [] (Zj (p := ((j : Int) ≤ (((Cn.rA most l nx C).1).length : Int))) (fun h2 => ?_) fun h2 => ?_))
      ·
       refine Zk (Ft (Zs (Zb (Sz hcx [] [14] [68] [] (Zb (Zn [(603, .to 603), (606, .to 606), (702, .to 703)] [3, 6, 9, 10, 11, 13, 14] (Lp (X := Nat) (fun x0 => x0 ≤ (Cn.rB most l nx C).1.length + 1) (fun x0 => ([(3, .loc 603 0), (6, .loc 606 0), (9, .ints ((Cn.rA most l nx C).1)), (10, .ints ((Cn.rB most l nx C).1)), (11, .ints (Cn.q0f (Cn.rB most l nx C).2.1 i)), (13, .int (j : Int)), (14, .int (x0 : Int))], [(603, .box [.row 703, .int ((Cn.rB most l nx C).2.1 + (i : Int))]), (606, .box [.im (.val (.slice none 0 0)), .int 0]), (703, .row 22 (.intss (((Cn.rB most l nx C).2.2 ++ Cn.q3c (Cn.rA most l nx C).1 (Cn.rB most l nx C).1 (Cn.q0f (Cn.rB most l nx C).2.1 i) j) ++ Cn.q4k (Cn.rA most l nx C).1 (Cn.rB most l nx C).1 (Cn.q0f (Cn.rB most l nx C).2.1 i) j x0)))])) (fun x0 => (Cn.rB most l nx C).1.length + 1 - x0) (0) ?_ (Ex 14 (congrArg AV.int (show 0 = (0 : Int) from (by first | rfl | omega | (simp; done)))) Eb) (Hx 703 (congrArg (fun x => q0d.row 22 (.intss x)) (show ((Cn.rB most l nx C).2.2 ++ Cn.q3c (Cn.rA most l nx C).1 (Cn.rB most l nx C).1 (Cn.q0f (Cn.rB most l nx C).2.1 i) j) = (((Cn.rB most l nx C).2.2 ++ Cn.q3c (Cn.rA most l nx C).1 (Cn.rB most l nx C).1 (Cn.q0f (Cn.rB most l nx C).2.1 i) j) ++ Cn.q4k (Cn.rA most l nx C).1 (Cn.rB most l nx C).1 (Cn.q0f (Cn.rB most l nx C).2.1 i) j 0) from (by exact (List.append_nil _).symm))) Hb) fun k hI => ?_)))))))
       ·
        show 0 ≤ (Cn.rB most l nx C).1.length + 1
        omega
       ·
        try dsimp only at hI
        have hcb := Cn.x8t (a := (Cn.rA most l nx C).1) (b := (Cn.rB most l nx C).1) (o := (Cn.q0f (Cn.rB most l nx C).2.1 i)) (c := (Cn.rB most l nx C).2.2) (j := j) (k := k) (by omega) (by omega) (by omega)
        refine Zs (Sz hcx [] [74] [] [] (Zj (p := ((k : Int) ≤ (((Cn.rB most l nx C).1).length : Int))) (fun h3 => ?_) fun h3 => ?_))
        ·
         refine Zk (Ft (Zs (Zb (Tq hcx [(603, .to 603), (1006, .to 703)] [] [74] [703] [((((Cn.rB most l nx C).2.2 ++ Cn.q3c (Cn.rA most l nx C).1 (Cn.rB most l nx C).1 (Cn.q0f (Cn.rB most l nx C).2.1 i) j) ++ Cn.q4k (Cn.rA most l nx C).1 (Cn.rB most l nx C).1 (Cn.q0f (Cn.rB most l nx C).2.1 i) j k).length ≤ 400000000 ∧ (0 ≤ (j : Int) ∧ (j : Int) ≤ ((Cn.rA most l nx C).1).length) ∧ (0 ≤ (k : Int) ∧ (k : Int) ≤ ((Cn.rB most l nx C).1).length) ∧ (((Cn.rA most l nx C).1).length ≤ 4096 ∧ ((Cn.rB most l nx C).1).length ≤ 4096 ∧ (Cn.q0f (Cn.rB most l nx C).2.1 i).length ≤ 4096) ∧ (∀ x ∈ ((Cn.rA most l nx C).1), -65537 ≤ x ∧ x ≤ 65537) ∧ (∀ x ∈ ((Cn.rB most l nx C).1), -65537 ≤ x ∧ x ≤ 65537) ∧ (∀ x ∈ (Cn.q0f (Cn.rB most l nx C).2.1 i), -65537 ≤ x ∧ x ≤ 65537))] ?_ (Fb (Ft (Tq hcx [] [14] [] [] [Fit ((k : Int) + 1)] ?_ (Fn [(603, .to 603), (606, .to 606), (703, .to 703)] [3, 6, 9, 10, 11, 13, 14] (Lr (k + 1) ?_ ?_ (Ex 14 (congrArg AV.int (show ((k : Int) + 1) = ((k + 1) : Int) from (by first | rfl | omega | (simp; done)))) Eb) (Hx 703 (congrArg (fun x => q0d.row 22 (.intss x)) (show ((((Cn.rB most l nx C).2.2 ++ Cn.q3c (Cn.rA most l nx C).1 (Cn.rB most l nx C).1 (Cn.q0f (Cn.rB most l nx C).2.1 i) j) ++ Cn.q4k (Cn.rA most l nx C).1 (Cn.rB most l nx C).1 (Cn.q0f (Cn.rB most l nx C).2.1 i) j k) ++ Cn.up1 ((Cn.rA most l nx C).1) ((Cn.rB most l nx C).1) (Cn.q0f (Cn.rB most l nx C).2.1 i) (j : Int).toNat (k : Int).toNat ++ Cn.dn1 ((Cn.rA most l nx C).1) ((Cn.rB most l nx C).1) (Cn.q0f (Cn.rB most l nx C).2.1 i) (j : Int).toNat (k : Int).toNat) = (((Cn.rB most l nx C).2.2 ++ Cn.q3c (Cn.rA most l nx C).1 (Cn.rB most l nx C).1 (Cn.q0f (Cn.rB most l nx C).2.1 i) j) ++ Cn.q4k (Cn.rA most l nx C).1 (Cn.rB most l nx C).1 (Cn.q0f (Cn.rB most l nx C).2.1 i) j (k + 1)) from (by exact Cn.k9a))) Hb))))))))))
         ·
          refine ap ?_ az
          exact ⟨by omega, ⟨by omega, by omega⟩, ⟨by omega, by omega⟩, ⟨by omega, by omega, by rw [hol]; omega⟩, ra2, rb2, hob⟩
         ·
          refine ap ?_ az
          omega
         ·
          try dsimp only
          omega
         ·
          try dsimp only
          omega
        ·
         refine Ze (Fe (Fe (Fs (Fb (Ft (Tq hcx [] [13] [74, 14] [] [Fit ((j : Int) + 1)] ?_ (Fn [(603, .to 603), (606, .to 606), (703, .to 702)] [3, 6, 9, 10, 11, 13] (Lr (j + 1) ?_ ?_ (Ex 13 (congrArg AV.int (show ((j : Int) + 1) = ((j + 1) : Int) from (by first | rfl | omega | (simp; done)))) Eb) (Hx 702 (congrArg (fun x => q0d.row 22 (.intss x)) (show (((Cn.rB most l nx C).2.2 ++ Cn.q3c (Cn.rA most l nx C).1 (Cn.rB most l nx C).1 (Cn.q0f (Cn.rB most l nx C).2.1 i) j) ++ Cn.q4k (Cn.rA most l nx C).1 (Cn.rB most l nx C).1 (Cn.q0f (Cn.rB most l nx C).2.1 i) j k) = ((Cn.rB most l nx C).2.2 ++ Cn.q3c (Cn.rA most l nx C).1 (Cn.rB most l nx C).1 (Cn.q0f (Cn.rB most l nx C).2.1 i) (j + 1)) from (by exact Cn.k6x (by omega)))) Hb)))))))))
         ·
          refine ap ?_ az
          omega
         ·
          try dsimp only
          omega
         ·
          try dsimp only
          omega
      ·
       have h68_ : (Cn.rA most l nx C).1.length + 1 = j := by have := h2; omega
       rw [h68_] at hr
       exact Ze (Fe (Fe (Fs (Ft (Sz hcx [(606, .to 606)] [7] [68, 3, 9, 10, 11, 13] [603] (Zr (Fn [(702, .to 1), (606, .to 990)] [6, 7] (Rv hcx (congrArg AV.tup (q0c (congrArg AV.agg (q0c rfl (q0c (congrArg AV.int (show ((Cn.rB most l nx C).2.1 + (i : Int)) = (Cn.rtT most l (nx, C)).2.1 from (by first | (rw [hr]; done) | (rw [hr]; exact h1_) | (rw [hr]; omega) | (rw [hr]; simp; omega)))) rfl))) (q0c (congrArg AV.ints (show (Cn.q0f (Cn.rB most l nx C).2.1 i) = (Cn.rtT most l (nx, C)).1 from (by first | (rw [hr]; done) | (rw [hr]; exact h1_) | (rw [hr]; omega) | (rw [hr]; simp; omega)))) rfl))) [false, true] (q0r rfl (q0r (congrArg some (congrArg (fun x => q0d.row 22 (.intss x)) (show ((Cn.rB most l nx C).2.2 ++ Cn.q3c (Cn.rA most l nx C).1 (Cn.rB most l nx C).1 (Cn.q0f (Cn.rB most l nx C).2.1 i) j) = (Cn.rtT most l (nx, C)).2.2 from (by first | (rw [hr]; done) | (rw [hr]))))) rfl))))))))))
 ·
  cases hσ
theorem j4x : ∀ nn, q0o Tryz.prog 95 (q3e nn) := q9q (z0q (fn := Tryz.f95) Tryz.func95 (by kernel_rfl) rfl (fun args os p r outs hσ hp => by
 unfold q3e at hσ
 split at hσ
 · simp only [Option.some.injEq, Prod.mk.injEq] at hσ
   obtain ⟨rfl, rfl, rfl⟩ := hσ
   omega
 · cases hσ)) j0r
def q7r : CtF
 | [.agg [.row 0, .im (.val (.int .i64 nx))], .im (.ls (.ints l)), .im (.val (.int .i64 most))], [.row 22 (.intss C)] => some ((1 ≤ l.length ∧ l.length ≤ 4096) ∧ (∀ x ∈ l, -65537 ≤ x ∧ x ≤ 65537) ∧ (0 ≤ most ∧ most ≤ 1099511627776) ∧ 1 ≤ nx ∧ nx + Cn.q1k most l.length ≤ 65537 ∧ C.length + 8 * (l.length * l.length) ≤ 300000000, .tup [.agg [.row 1, .int ((Cn.rtT most l (nx, C)).2.1)], .ints ((Cn.rtT most l (nx, C)).1)], [none, some (.row 22 (.intss ((Cn.rtT most l (nx, C)).2.2)))])
 | _, _ => none
theorem q8f : q0o Tryz.prog 95 q7r := z5h j4x (fun args os p r outs hσ hp => by
 unfold q7r at hσ
 split at hσ
 · rename_i nx l most C
   simp only [Option.some.injEq, Prod.mk.injEq] at hσ
   obtain ⟨rfl, rfl, rfl⟩ := hσ
   exact ⟨l.length, _, rfl, ⟨hp.1, hp.2.1, hp.2.2.1, hp.2.2.2.1, hp.2.2.2.2.1, hp.2.2.2.2.2, Nat.le_refl _⟩⟩
 · cases hσ)
def z7i : Cx := ⟨j8n, [(133, (q2g [.agg [.id, .id], .ld (.ints []), .ld (.ints []), .ld (.ints []), .id, .id] q9k)), (95, (q2g [.agg [.id, .id], .ld (.ints []), .id] q7r))], true⟩
theorem j1j : q1g Tryz.prog z7i := q1b q7o ⟨(q9n.coe [.agg [.id, .id], .ld (.ints []), .ld (.ints []), .ld (.ints []), .id, .id] rfl), (q8f.coe [.agg [.id, .id], .ld (.ints []), .id] rfl), trivial⟩
def z4q : CtF
 | [.agg [.im (.val (.slice none 0 0)), .im (.val (.int .i64 nx))], .im (.ls (.ints l)), .im (.val (.int .i64 most))], [] => some ((1 ≤ l.length ∧ l.length ≤ 4096) ∧ (∀ x ∈ l, -65537 ≤ x ∧ x ≤ 65537) ∧ (0 ≤ most ∧ most ≤ 1099511627776) ∧ 1 ≤ nx ∧ nx + Cn.q1k most l.length ≤ 65537, .tup [.agg [.row 0, .int ((Cn.rtT most l (nx, ([] : List (List Int)))).2.1)], .ints ((Cn.rtT most l (nx, ([] : List (List Int)))).1)], [some (.row 22 (.intss ((Cn.rtT most l (nx, ([] : List (List Int)))).2.2)))])
 | _, _ => none
set_option maxRecDepth 4000 in
set_option maxHeartbeats 4000000 in
theorem j0c : q0o Tryz.prog 95 z4q := by
 refine Sw (cx := z7i) Tryz.f95 Tryz.func95 ?_
 intro wW wO wβ G0 args os p r outs hσ hp
 have hcx := j1j
 have hmx : Tryz.prog.follows .mixedOrders = true := by kernel_rfl
 unfold z4q at hσ
 split at hσ
 ·
  rename_i nx l most
  cases hσ
  refine ⟨by kernel_rfl, ?_⟩
  obtain ⟨⟨hl1, hl2⟩, hx, ⟨hm1, hm2⟩, hn1, hq⟩ := hp
  have hC : ([] : List (List Int)).length + 8 * (l.length * l.length) ≤ 300000000 := by have := Nat.mul_le_mul hl2 hl2; simp only [List.length_nil]; omega
  have hd : (l.length : Int).tdiv 2 = ((l.length / 2 : Nat) : Int) := Cn.x0k l
  refine Sz hcx [(1000, .to 603), (1001, .to 606)] [3, 6] [0] [] (Zs (Sz hcx [] [17] [] [] (Zu (a := (l.length : Int)) (b := 1) (fun h0 => ?_) fun h0 => ?_)))
  ·
   have hr := Cn.y1q (most := most) (s := (nx, ([] : List (List Int)))) (l := l) (by have := h0; omega)
   have h1_ := Cn.j9x (l := l) (by have := h0; omega)
   refine Sd hcx hmx [0, 0, 2, 6, 14, 1, 63] [(1004, .to 222), (606, .to 606)] [7] [17, 3, 1, 2] [603] [((0 : Int) ≤ 0 ∧ 0 < (l.length : Int))] ?_ (Zr (Fr (Fv 606 0 700 22 (.intss []) (Fn [(700, .to 0), (606, .to 990), (222, .frz)] [6, 7] (Rv hcx (congrArg AV.tup (q0c (congrArg AV.agg (q0c rfl (q0c (congrArg AV.int (show nx = (Cn.rtT most l (nx, ([] : List (List Int)))).2.1 from (by first | (rw [hr]; done) | (rw [hr]; exact h1_) | (rw [hr]; omega) | (rw [hr]; simp; omega)))) rfl))) (q0c (congrArg AV.ints (show [(l.getD 0 0)] = (Cn.rtT most l (nx, ([] : List (List Int)))).1 from (by first | (rw [hr]; done) | (rw [hr]; exact h1_) | (rw [hr]; omega) | (rw [hr]; simp; omega)))) rfl))) [true] (q0r (congrArg some (congrArg (fun x => q0d.row 22 (.intss x)) (show [] = (Cn.rtT most l (nx, ([] : List (List Int)))).2.2 from (by first | (rw [hr]; done) | (rw [hr]))))) rfl))))))
   ·
    refine ap ?_ az
    omega
  ·
   have h2_ : 2 ≤ l.length := by have := h0; omega
   have hr := Cn.y6a (most := most) (nx := nx) (C := ([] : List (List Int))) h2_
   have hst := Cn.y5i hm1 h2_ hl2 hn1 hq hx hC
   obtain ⟨⟨sa1, sa2, sa3, sa4, sa5⟩, ⟨sb1, sb2, sb3, sb4, sb5, sb6⟩, ⟨ra1, ra2, ra3⟩, ⟨rb1, rb2, rb3⟩, hsum, hvm⟩ := hst
   refine Zk (Ft (Sq hcx [] [8] [17] [] [((2 : Int) ≠ 0 ∧ Fit ((l.length : Int).tdiv 2))] ?_ (Zs (Zv 603 0 701 22 (.intss []) (Td hcx hmx [0, 0, 0, 6, 0, 31, 63, 127, 127, 255, 1023] [(603, .to 603), (1005, .to 701)] [9] [] [701] [((0 : Int) ≤ ((l.length : Int).tdiv 2) ∧ ((l.length : Int).tdiv 2) ≤ (l.length : Int)), ((1 ≤ ((l.take (((l.length : Int).tdiv 2).toNat)).drop 0).length ∧ ((l.take (((l.length : Int).tdiv 2).toNat)).drop 0).length ≤ 4096) ∧ (∀ x ∈ ((l.take (((l.length : Int).tdiv 2).toNat)).drop 0), -65537 ≤ x ∧ x ≤ 65537) ∧ (0 ≤ most ∧ most ≤ 1099511627776) ∧ 1 ≤ nx ∧ nx + Cn.q1k most ((l.take (((l.length : Int).tdiv 2).toNat)).drop 0).length ≤ 65537 ∧ ([] : List (List Int)).length + 8 * (((l.take (((l.length : Int).tdiv 2).toNat)).drop 0).length * ((l.take (((l.length : Int).tdiv 2).toNat)).drop 0).length) ≤ 300000000)] ?_ (Ft (Sd hcx hmx [0, 0, 0, 6, 0, 31, 63, 127, 127, 255, 1023] [(603, .to 603), (1005, .to 701)] [10] [8] [701] [((0 : Int) ≤ ((l.length : Int).tdiv 2) ∧ ((l.length : Int).tdiv 2) ≤ (l.length : Int)), ((1 ≤ ((l.take l.length).drop (((l.length : Int).tdiv 2).toNat)).length ∧ ((l.take l.length).drop (((l.length : Int).tdiv 2).toNat)).length ≤ 4096) ∧ (∀ x ∈ ((l.take l.length).drop (((l.length : Int).tdiv 2).toNat)), -65537 ≤ x ∧ x ≤ 65537) ∧ (0 ≤ most ∧ most ≤ 1099511627776) ∧ 1 ≤ ((Cn.rA most l nx ([] : List (List Int))).2.1) ∧ ((Cn.rA most l nx ([] : List (List Int))).2.1) + Cn.q1k most ((l.take l.length).drop (((l.length : Int).tdiv 2).toNat)).length ≤ 65537 ∧ ((Cn.rA most l nx ([] : List (List Int))).2.2).length + 8 * (((l.take l.length).drop (((l.length : Int).tdiv 2).toNat)).length * ((l.take l.length).drop (((l.length : Int).tdiv 2).toNat)).length) ≤ 300000000)] ?_ (Sz hcx [(1000, .to 244)] [11] [] [] (Zs (Sz hcx [] [12] [] [] (Zb (Zn [(603, .to 603), (606, .to 606), (244, .to 700), (701, .to 702)] [1, 2, 3, 6, 9, 10, 11, 12] (Lp (X := Nat) (fun x0 => x0 ≤ (min (l.length : Int) most).toNat) (fun x0 => ([(1, .ints l), (2, .int most), (3, .loc 603 0), (6, .loc 606 0), (9, .ints ((Cn.rA most l nx ([] : List (List Int))).1)), (10, .ints ((Cn.rB most l nx ([] : List (List Int))).1)), (11, .row 700), (12, .int (x0 : Int))], [(603, .box [.row 702, .int ((Cn.rB most l nx ([] : List (List Int))).2.1 + (x0 : Int))]), (606, .box [.im (.val (.slice none 0 0)), .int 0]), (700, .row 3 (.ints (Cn.q0f (Cn.rB most l nx ([] : List (List Int))).2.1 x0))), (702, .row 22 (.intss ((Cn.rB most l nx ([] : List (List Int))).2.2)))])) (fun x0 => (min (l.length : Int) most).toNat - x0) (0) ?_ (Ex 12 (congrArg AV.int (show 0 = (0 : Int) from (by first | rfl | omega | (simp; done)))) Eb) (Hx 603 (o := .box [.row 702, .int ((Cn.rB most l nx ([] : List (List Int))).2.1)]) (o' := .box [.row 702, .int ((Cn.rB most l nx ([] : List (List Int))).2.1 + (0 : Int))]) (congrArg q0d.box (q0c rfl (q0c (congrArg AV.int (show (Cn.rB most l nx ([] : List (List Int))).2.1 = ((Cn.rB most l nx ([] : List (List Int))).2.1 + (0 : Int)) from (by omega))) rfl))) (Hx 702 (congrArg (fun x => q0d.row 22 (.intss x)) (show (Cn.rB most l nx ([] : List (List Int))).2.2 = (Cn.rB most l nx ([] : List (List Int))).2.2 from (by first | rfl | (simp; done)))) Hb)) fun i hI => ?_)))))))))))))
   ·
    refine ap ?_ az
    omega
   ·
    refine ap ?_ (ap ?_ az) <;>
     first | omega | exact ⟨sa1, sa2, ⟨hm1, hm2⟩, hn1, sa4, sa5⟩
   ·
    refine ap ?_ (ap ?_ az) <;>
     first | omega | exact ⟨sb1, sb2, ⟨hm1, hm2⟩, sb4, sb5, sb6⟩
   ·
    show 0 ≤ (min (l.length : Int) most).toNat
    omega
   ·
    try dsimp only at hI
    have hoi := Cn.q3w (Cn.rB most l nx ([] : List (List Int))).2.1 i
    refine Zs (Sq hcx [] [53] [] [] [((decide ((i : Int) < (l.length : Int))) = true → ((decide ((i : Int) < (l.length : Int))) = true)), ((decide ((i : Int) < (l.length : Int))) = true → ((decide ((i : Int) < (l.length : Int))) = true)), ((decide ((i : Int) < (l.length : Int))) = true → (decide ((i : Int) < (l.length : Int))) = true)] ?_ (Zi (b := (decide ((i : Int) < (l.length : Int))) && (decide ((i : Int) < most))) (fun h1 => ?_) fun h1 => ?_))
    ·
     refine ap ?_ (ap ?_ (ap (by exact id) az)) <;>
      exact id
    ·
     have h53_ : i < (min (l.length : Int) most).toNat := Cn.k4r h1
     refine Zk (Ft (Zs (Zb (Sq hcx [(1004, .to 700)] [11] [53] [700] [(((Cn.q0f (Cn.rB most l nx ([] : List (List Int))).2.1 i).length + [((Cn.rB most l nx ([] : List (List Int))).2.1 + (i : Int))].length) * 8 ≤ 140737488355328)] ?_ (Tq hcx [(603, .to 603)] [] [] [] [Fit (((Cn.rB most l nx ([] : List (List Int))).2.1 + (i : Int)) + 1)] ?_ (Fb (Ft (Tq hcx [] [12] [] [] [Fit ((i : Int) + 1)] ?_ (Fn [(603, .to 603), (606, .to 606), (700, .to 700), (702, .to 702)] [1, 2, 3, 6, 9, 10, 11, 12] (Lr (i + 1) ?_ ?_ (Ex 12 (congrArg AV.int (show ((i : Int) + 1) = ((i + 1) : Int) from (by first | rfl | omega | (simp; done)))) Eb) (Hx 603 (o := .box [.row 702, .int (((Cn.rB most l nx ([] : List (List Int))).2.1 + (i : Int)) + 1)]) (o' := .box [.row 702, .int ((Cn.rB most l nx ([] : List (List Int))).2.1 + ((i + 1) : Int))]) (congrArg q0d.box (q0c rfl (q0c (congrArg AV.int (show (((Cn.rB most l nx ([] : List (List Int))).2.1 + (i : Int)) + 1) = ((Cn.rB most l nx ([] : List (List Int))).2.1 + ((i + 1) : Int)) from (by omega))) rfl))) (Hx 700 (congrArg (fun x => q0d.row 3 (.ints x)) (show ((Cn.q0f (Cn.rB most l nx ([] : List (List Int))).2.1 i) ++ [((Cn.rB most l nx ([] : List (List Int))).2.1 + (i : Int))]) = (Cn.q0f (Cn.rB most l nx ([] : List (List Int))).2.1 (i + 1)) from (by exact Cn.j3l))) Hb))))))))))))
     ·
      refine ap ?_ az
      (simp only [List.length_cons, List.length_nil, List.length_append, List.length_map, List.length_set, List.length_replicate]; omega)
     ·
      refine ap ?_ az
      omega
     ·
      refine ap ?_ az
      omega
     ·
      try dsimp only
      omega
     ·
      try dsimp only
      omega
    ·
     have h53_ : min (l.length : Int) most = (i : Int) := Cn.x6l hI h1
     rw [h53_, Int.toNat_natCast] at hr
     have hol : (Cn.q0f (Cn.rB most l nx ([] : List (List Int))).2.1 i).length = i := Cn.q3w _ _
     have hob : (∀ x ∈ (Cn.q0f (Cn.rB most l nx ([] : List (List Int))).2.1 i), -65537 ≤ x ∧ x ≤ 65537) := fun x hx => by have := Cn.z2k hx; omega
     refine Ze (Fe (Fe (Fs (Ft (Zs (Zs (Zn [(603, .to 603), (606, .to 606), (702, .to 702), (700, .frz)] [53, 1, 2, 3, 6, 9, 10, 11, 12] (Tz hcx [] [13] [53, 1, 2, 12] [] (Ft (Zb (Zn [(603, .to 603), (606, .to 606), (702, .to 703)] [3, 6, 9, 10, 11, 13] (Lp (X := Nat) (fun x0 => x0 ≤ (Cn.rA most l nx ([] : List (List Int))).1.length + 1) (fun x0 => ([(3, .loc 603 0), (6, .loc 606 0), (9, .ints ((Cn.rA most l nx ([] : List (List Int))).1)), (10, .ints ((Cn.rB most l nx ([] : List (List Int))).1)), (11, .ints (Cn.q0f (Cn.rB most l nx ([] : List (List Int))).2.1 i)), (13, .int (x0 : Int))], [(603, .box [.row 703, .int ((Cn.rB most l nx ([] : List (List Int))).2.1 + (i : Int))]), (606, .box [.im (.val (.slice none 0 0)), .int 0]), (703, .row 22 (.intss ((Cn.rB most l nx ([] : List (List Int))).2.2 ++ Cn.q3c (Cn.rA most l nx ([] : List (List Int))).1 (Cn.rB most l nx ([] : List (List Int))).1 (Cn.q0f (Cn.rB most l nx ([] : List (List Int))).2.1 i) x0)))])) (fun x0 => (Cn.rA most l nx ([] : List (List Int))).1.length + 1 - x0) (0) ?_ (Ex 13 (congrArg AV.int (show 0 = (0 : Int) from (by first | rfl | omega | (simp; done)))) Eb) (Hx 703 (congrArg (fun x => q0d.row 22 (.intss x)) (show (Cn.rB most l nx ([] : List (List Int))).2.2 = ((Cn.rB most l nx ([] : List (List Int))).2.2 ++ Cn.q3c (Cn.rA most l nx ([] : List (List Int))).1 (Cn.rB most l nx ([] : List (List Int))).1 (Cn.q0f (Cn.rB most l nx ([] : List (List Int))).2.1 i) 0) from (by exact (List.append_nil _).symm))) Hb) fun j hI => ?_))))))))))))
     ·
      try dsimp only
      omega
     ·
      try dsimp only at hI
      refine Zs (Sz hcx [] [68] [] [] (Zj (p := ((j : Int) ≤ (((Cn.rA most l nx ([] : List (List Int))).1).length : Int))) (fun h2 => ?_) fun h2 => ?_))
      ·
       refine Zk (Ft (Zs (Zb (Sz hcx [] [14] [68] [] (Zb (Zn [(603, .to 603), (606, .to 606), (703, .to 704)] [3, 6, 9, 10, 11, 13, 14] (Lp (X := Nat) (fun x0 => x0 ≤ (Cn.rB most l nx ([] : List (List Int))).1.length + 1) (fun x0 => ([(3, .loc 603 0), (6, .loc 606 0), (9, .ints ((Cn.rA most l nx ([] : List (List Int))).1)), (10, .ints ((Cn.rB most l nx ([] : List (List Int))).1)), (11, .ints (Cn.q0f (Cn.rB most l nx ([] : List (List Int))).2.1 i)), (13, .int (j : Int)), (14, .int (x0 : Int))], [(603, .box [.row 704, .int ((Cn.rB most l nx ([] : List (List Int))).2.1 + (i : Int))]), (606, .box [.im (.val (.slice none 0 0)), .int 0]), (704, .row 22 (.intss (((Cn.rB most l nx ([] : List (List Int))).2.2 ++ Cn.q3c (Cn.rA most l nx ([] : List (List Int))).1 (Cn.rB most l nx ([] : List (List Int))).1 (Cn.q0f (Cn.rB most l nx ([] : List (List Int))).2.1 i) j) ++ Cn.q4k (Cn.rA most l nx ([] : List (List Int))).1 (Cn.rB most l nx ([] : List (List Int))).1 (Cn.q0f (Cn.rB most l nx ([] : List (List Int))).2.1 i) j x0)))])) (fun x0 => (Cn.rB most l nx ([] : List (List Int))).1.length + 1 - x0) (0) ?_ (Ex 14 (congrArg AV.int (show 0 = (0 : Int) from (by first | rfl | omega | (simp; done)))) Eb) (Hx 704 (congrArg (fun x => q0d.row 22 (.intss x)) (show ((Cn.rB most l nx ([] : List (List Int))).2.2 ++ Cn.q3c (Cn.rA most l nx ([] : List (List Int))).1 (Cn.rB most l nx ([] : List (List Int))).1 (Cn.q0f (Cn.rB most l nx ([] : List (List Int))).2.1 i) j) = (((Cn.rB most l nx ([] : List (List Int))).2.2 ++ Cn.q3c (Cn.rA most l nx ([] : List (List Int))).1 (Cn.rB most l nx ([] : List (List Int))).1 (Cn.q0f (Cn.rB most l nx ([] : List (List Int))).2.1 i) j) ++ Cn.q4k (Cn.rA most l nx ([] : List (List Int))).1 (Cn.rB most l nx ([] : List (List Int))).1 (Cn.q0f (Cn.rB most l nx ([] : List (List Int))).2.1 i) j 0) from (by exact (List.append_nil _).symm))) Hb) fun k hI => ?_)))))))
       ·
        try dsimp only
        omega
       ·
        try dsimp only at hI
        have hcb := Cn.x8t (a := (Cn.rA most l nx ([] : List (List Int))).1) (b := (Cn.rB most l nx ([] : List (List Int))).1) (o := (Cn.q0f (Cn.rB most l nx ([] : List (List Int))).2.1 i)) (c := (Cn.rB most l nx ([] : List (List Int))).2.2) (j := j) (k := k) (by omega) (by omega) (by omega)
        refine Zs (Sz hcx [] [74] [] [] (Zj (p := ((k : Int) ≤ (((Cn.rB most l nx ([] : List (List Int))).1).length : Int))) (fun h3 => ?_) fun h3 => ?_))
        ·
         refine Zk (Ft (Zs (Zb (Tq hcx [(603, .to 603), (1006, .to 704)] [] [74] [704] [((((Cn.rB most l nx ([] : List (List Int))).2.2 ++ Cn.q3c (Cn.rA most l nx ([] : List (List Int))).1 (Cn.rB most l nx ([] : List (List Int))).1 (Cn.q0f (Cn.rB most l nx ([] : List (List Int))).2.1 i) j) ++ Cn.q4k (Cn.rA most l nx ([] : List (List Int))).1 (Cn.rB most l nx ([] : List (List Int))).1 (Cn.q0f (Cn.rB most l nx ([] : List (List Int))).2.1 i) j k).length ≤ 400000000 ∧ (0 ≤ (j : Int) ∧ (j : Int) ≤ ((Cn.rA most l nx ([] : List (List Int))).1).length) ∧ (0 ≤ (k : Int) ∧ (k : Int) ≤ ((Cn.rB most l nx ([] : List (List Int))).1).length) ∧ (((Cn.rA most l nx ([] : List (List Int))).1).length ≤ 4096 ∧ ((Cn.rB most l nx ([] : List (List Int))).1).length ≤ 4096 ∧ (Cn.q0f (Cn.rB most l nx ([] : List (List Int))).2.1 i).length ≤ 4096) ∧ (∀ x ∈ ((Cn.rA most l nx ([] : List (List Int))).1), -65537 ≤ x ∧ x ≤ 65537) ∧ (∀ x ∈ ((Cn.rB most l nx ([] : List (List Int))).1), -65537 ≤ x ∧ x ≤ 65537) ∧ (∀ x ∈ (Cn.q0f (Cn.rB most l nx ([] : List (List Int))).2.1 i), -65537 ≤ x ∧ x ≤ 65537))] ?_ (Fb (Ft (Tq hcx [] [14] [] [] [Fit ((k : Int) + 1)] ?_ (Fn [(603, .to 603), (606, .to 606), (704, .to 704)] [3, 6, 9, 10, 11, 13, 14] (Lr (k + 1) ?_ ?_ (Ex 14 (congrArg AV.int (show ((k : Int) + 1) = ((k + 1) : Int) from (by first | rfl | omega | (simp; done)))) Eb) (Hx 704 (congrArg (fun x => q0d.row 22 (.intss x)) (show ((((Cn.rB most l nx ([] : List (List Int))).2.2 ++ Cn.q3c (Cn.rA most l nx ([] : List (List Int))).1 (Cn.rB most l nx ([] : List (List Int))).1 (Cn.q0f (Cn.rB most l nx ([] : List (List Int))).2.1 i) j) ++ Cn.q4k (Cn.rA most l nx ([] : List (List Int))).1 (Cn.rB most l nx ([] : List (List Int))).1 (Cn.q0f (Cn.rB most l nx ([] : List (List Int))).2.1 i) j k) ++ Cn.up1 ((Cn.rA most l nx ([] : List (List Int))).1) ((Cn.rB most l nx ([] : List (List Int))).1) (Cn.q0f (Cn.rB most l nx ([] : List (List Int))).2.1 i) (j : Int).toNat (k : Int).toNat ++ Cn.dn1 ((Cn.rA most l nx ([] : List (List Int))).1) ((Cn.rB most l nx ([] : List (List Int))).1) (Cn.q0f (Cn.rB most l nx ([] : List (List Int))).2.1 i) (j : Int).toNat (k : Int).toNat) = (((Cn.rB most l nx ([] : List (List Int))).2.2 ++ Cn.q3c (Cn.rA most l nx ([] : List (List Int))).1 (Cn.rB most l nx ([] : List (List Int))).1 (Cn.q0f (Cn.rB most l nx ([] : List (List Int))).2.1 i) j) ++ Cn.q4k (Cn.rA most l nx ([] : List (List Int))).1 (Cn.rB most l nx ([] : List (List Int))).1 (Cn.q0f (Cn.rB most l nx ([] : List (List Int))).2.1 i) j (k + 1)) from (by exact Cn.k9a))) Hb))))))))))
         ·
          refine ap ?_ az
          exact ⟨by omega, ⟨by omega, by omega⟩, ⟨by omega, by omega⟩, ⟨by omega, by omega, by rw [hol]; omega⟩, ra2, rb2, hob⟩
         ·
          refine ap ?_ az
          omega
         ·
          try dsimp only
          omega
         ·
          try dsimp only
          omega
        ·
         refine Ze (Fe (Fe (Fs (Fb (Ft (Tq hcx [] [13] [74, 14] [] [Fit ((j : Int) + 1)] ?_ (Fn [(603, .to 603), (606, .to 606), (704, .to 703)] [3, 6, 9, 10, 11, 13] (Lr (j + 1) ?_ ?_ (Ex 13 (congrArg AV.int (show ((j : Int) + 1) = ((j + 1) : Int) from (by first | rfl | omega | (simp; done)))) Eb) (Hx 703 (congrArg (fun x => q0d.row 22 (.intss x)) (show (((Cn.rB most l nx ([] : List (List Int))).2.2 ++ Cn.q3c (Cn.rA most l nx ([] : List (List Int))).1 (Cn.rB most l nx ([] : List (List Int))).1 (Cn.q0f (Cn.rB most l nx ([] : List (List Int))).2.1 i) j) ++ Cn.q4k (Cn.rA most l nx ([] : List (List Int))).1 (Cn.rB most l nx ([] : List (List Int))).1 (Cn.q0f (Cn.rB most l nx ([] : List (List Int))).2.1 i) j k) = ((Cn.rB most l nx ([] : List (List Int))).2.2 ++ Cn.q3c (Cn.rA most l nx ([] : List (List Int))).1 (Cn.rB most l nx ([] : List (List Int))).1 (Cn.q0f (Cn.rB most l nx ([] : List (List Int))).2.1 i) (j + 1)) from (by exact Cn.k6x (by omega)))) Hb)))))))))
         ·
          refine ap ?_ az
          omega
         ·
          try dsimp only
          omega
         ·
          try dsimp only
          omega
      ·
       have h68_ : (Cn.rA most l nx ([] : List (List Int))).1.length + 1 = j := by have := h2; omega
       rw [h68_] at hr
       exact Ze (Fe (Fe (Fs (Ft (Sz hcx [(606, .to 606)] [7] [68, 3, 9, 10, 11, 13] [603] (Zr (Fn [(703, .to 0), (606, .to 990)] [6, 7] (Rv hcx (congrArg AV.tup (q0c (congrArg AV.agg (q0c rfl (q0c (congrArg AV.int (show ((Cn.rB most l nx ([] : List (List Int))).2.1 + (i : Int)) = (Cn.rtT most l (nx, ([] : List (List Int)))).2.1 from (by first | (rw [hr]; done) | (rw [hr]; exact h1_) | (rw [hr]; omega) | (rw [hr]; simp; omega)))) rfl))) (q0c (congrArg AV.ints (show (Cn.q0f (Cn.rB most l nx ([] : List (List Int))).2.1 i) = (Cn.rtT most l (nx, ([] : List (List Int)))).1 from (by first | (rw [hr]; done) | (rw [hr]; exact h1_) | (rw [hr]; omega) | (rw [hr]; simp; omega)))) rfl))) [true] (q0r (congrArg some (congrArg (fun x => q0d.row 22 (.intss x)) (show ((Cn.rB most l nx ([] : List (List Int))).2.2 ++ Cn.q3c (Cn.rA most l nx ([] : List (List Int))).1 (Cn.rB most l nx ([] : List (List Int))).1 (Cn.q0f (Cn.rB most l nx ([] : List (List Int))).2.1 i) j) = (Cn.rtT most l (nx, ([] : List (List Int)))).2.2 from (by first | (rw [hr]; done) | (rw [hr]))))) rfl)))))))))
 ·
  cases hσ
def z5j : Cx := ⟨j8n, [(40, (q2g [.ld (.ints []), .id] q4y)), (94, z0g), (95, (orF (q2g [.agg [.id, .id], .ld (.ints []), .id] q7r) (q2g [.agg [.id, .id], .ld (.ints []), .id] z4q)))], true⟩
theorem z6u : q1g Tryz.prog z5j := q1b q7o ⟨(q3u.coe [.ld (.ints []), .id] rfl), z0f, ((q8f.coe [.agg [.id, .id], .ld (.ints []), .id] rfl).or (j0c.coe [.agg [.id, .id], .ld (.ints []), .id] rfl)), trivial⟩
def z1i : CtF
 | [.im (.ls (.ints l)), .im (.val (.int .i64 most)), .im (.val (.int .i64 next))], [] => some (l.length ≤ maxLen ∧ (∀ x ∈ l, -65537 ≤ x ∧ x ≤ 65537) ∧ Fit most ∧ Fit next, .tup [.ints ((Cn.q4g most l next).1), .row 0, .int ((Cn.q4g most l next).2.2.1), .int ((Cn.q4g most l next).2.2.2)], [some (.row 22 (.intss ((Cn.q4g most l next).2.1)))])
 | _, _ => none
theorem z5x : q0o Tryz.prog 43 z1i := by
 refine Sw (cx := z5j) Tryz.f43 Tryz.func43 ?_
 intro wW wO wβ G0 args os p r outs hσ hp
 have hcx := z6u
 have hmx : Tryz.prog.follows .mixedOrders = true := by kernel_rfl
 unfold z1i at hσ
 split at hσ
 ·
  rename_i l most next
  cases hσ
  refine ⟨by kernel_rfl, ?_⟩
  obtain ⟨hm1, hx, hf1, hf2⟩ := hp
  have hm2 := hm1
  unfold maxLen at hm2
  have hx2 : ∀ x ∈ l, -9223372036854775808 ≤ x ∧ x ≤ 9223372036854775807 := fun x hxm => by have := hx x hxm; omega
  refine Sz hcx [] [] [] [] (Zs (Sq hcx [] [31] [] [] [((!(decide (next < 1))) = true → ((!(decide (next < 1))) = true)), ((decide (next < 1)) = false → (!(decide (next < 1))) = true), ((!((decide (next < 1)) || (decide (next > 65537)))) = true → ((!((decide (next < 1)) || (decide (next > 65537)))) = true)), (((decide (next < 1)) || (decide (next > 65537))) = false → (!((decide (next < 1)) || (decide (next > 65537)))) = true), ((!(((decide (next < 1)) || (decide (next > 65537))) || (decide (most < 0)))) = true → ((!(((decide (next < 1)) || (decide (next > 65537))) || (decide (most < 0)))) = true)), ((((decide (next < 1)) || (decide (next > 65537))) || (decide (most < 0))) = false → (!(((decide (next < 1)) || (decide (next > 65537))) || (decide (most < 0)))) = true), ((!((((decide (next < 1)) || (decide (next > 65537))) || (decide (most < 0))) || (decide (most > 1099511627776)))) = true → ((!((((decide (next < 1)) || (decide (next > 65537))) || (decide (most < 0))) || (decide (most > 1099511627776)))) = true)), ((!((((decide (next < 1)) || (decide (next > 65537))) || (decide (most < 0))) || (decide (most > 1099511627776)))) = true → ((!((((decide (next < 1)) || (decide (next > 65537))) || (decide (most < 0))) || (decide (most > 1099511627776)))) = true)), (((((decide (next < 1)) || (decide (next > 65537))) || (decide (most < 0))) || (decide (most > 1099511627776))) = false → (!((((decide (next < 1)) || (decide (next > 65537))) || (decide (most < 0))) || (decide (most > 1099511627776)))) = true)] ?_ (Zi (b := ((((decide (next < 1)) || (decide (next > 65537))) || (decide (most < 0))) || (decide (most > 1099511627776))) || (decide ((l.length : Int) > 4096))) (fun h0 => ?_) fun h0 => ?_)))
  ·
   refine ap ?_ (ap (by exact q1v) (ap ?_ (ap (by exact q1v) (ap ?_ (ap (by exact q1v) (ap ?_ (ap ?_ (ap (by exact q1v) az)))))))) <;>
    exact id
  ·
   have hr := Cn.k4m (most := most) (l := l) (next := next) h0
   exact Sz hcx [] [6, 7, 8, 9] [31, 0, 1, 2] [] (Zr (Fr (Fp 6 (.ints []) (Fw 7 700 22 (.intss []) (Fn [(700, .to 0)] [6, 7, 8, 9] (Rv hcx (congrArg AV.tup (q0c (congrArg AV.ints (show [] = (Cn.q4g most l next).1 from (by (rw [hr]; done)))) (q0c rfl (q0c (congrArg AV.int (show 0 = (Cn.q4g most l next).2.2.1 from (by (rw [hr]; done)))) (q0c (congrArg AV.int (show 1 = (Cn.q4g most l next).2.2.2 from (by (rw [hr]; done)))) rfl))))) [true] (q0r (congrArg some (congrArg (fun x => q0d.row 22 (.intss x)) (show [] = (Cn.q4g most l next).2.1 from (by (rw [hr]; done))))) rfl)))))))
  ·
   have hg := Cn.k7f (most := most) (l := l) (next := next) h0
   obtain ⟨g0, g1, g2, g3, g4, g5⟩ := hg
   have hvb := Cn.q5t g3 l.length
   have hvq : (l.length : Int) * l.length ≤ 16777216 := Cn.x8s g5
   refine Zk (Ft (Sq hcx [] [10] [31] [] [(l.length ≤ maxLen ∧ (∀ x ∈ l, -9223372036854775808 ≤ x ∧ x ≤ 9223372036854775807) ∧ next ≤ 70000 ∧ -9223372036854775808 ≤ next)] ?_ (Zs (Sz hcx [] [36] [] [] (Zx (a := (Cn.q9e next l)) (b := 0) (fun h1 => ?_) fun h1 => ?_)))))
   ·
    refine ap ?_ az
    exact ⟨hm1, hx2, by omega, by omega⟩
   ·
    have hr := Cn.k4g g0 h1
    exact Sz hcx [] [6, 7, 8, 9] [36, 10, 0, 1, 2] [] (Zr (Fr (Fp 6 (.ints []) (Fw 7 700 22 (.intss []) (Fn [(700, .to 0)] [6, 7, 8, 9] (Rv hcx (congrArg AV.tup (q0c (congrArg AV.ints (show [] = (Cn.q4g most l next).1 from (by (rw [hr]; done)))) (q0c rfl (q0c (congrArg AV.int (show 0 = (Cn.q4g most l next).2.2.1 from (by (rw [hr]; done)))) (q0c (congrArg AV.int (show (Cn.q9e next l) = (Cn.q4g most l next).2.2.2 from (by (rw [hr]; done)))) rfl))))) [true] (q0r (congrArg some (congrArg (fun x => q0d.row 22 (.intss x)) (show [] = (Cn.q4g most l next).2.1 from (by (rw [hr]; done))))) rfl)))))))
   ·
    have h36_ : Cn.q9e next l = 0 := by have := h1; omega
    refine Zk (Ft (Zs (Sq hcx [] [44] [36, 10] [] [((!((l.length : Int) == 0)) = true → ((!((l.length : Int) == 0)) = true)), (((l.length : Int) == 0) = false → (!((l.length : Int) == 0)) = true)] ?_ (Zi (b := ((l.length : Int) == 0) || (most == 0)) (fun h2 => ?_) fun h2 => ?_))))
    ·
     refine ap ?_ (ap (by exact q1v) az)
     exact id
    ·
     have hr := Cn.k4h g0 h36_ (Cn.k1v.1 h2)
     exact Sz hcx [] [6, 7, 8, 9] [44, 0, 1, 2] [] (Zr (Fr (Fp 6 (.ints []) (Fw 7 700 22 (.intss []) (Fn [(700, .to 0)] [6, 7, 8, 9] (Rv hcx (congrArg AV.tup (q0c (congrArg AV.ints (show [] = (Cn.q4g most l next).1 from (by (rw [hr]; done)))) (q0c rfl (q0c (congrArg AV.int (show next = (Cn.q4g most l next).2.2.1 from (by (rw [hr]; done)))) (q0c (congrArg AV.int (show 0 = (Cn.q4g most l next).2.2.2 from (by (rw [hr]; done)))) rfl))))) [true] (q0r (congrArg some (congrArg (fun x => q0d.row 22 (.intss x)) (show [] = (Cn.q4g most l next).2.1 from (by (rw [hr]; done))))) rfl)))))))
    ·
     have h44_ := Cn.k7j h2
     refine Zk (Ft (Zs (Sq hcx [] [52] [44] [] [(1 ≤ (l.length : Int) ∧ (l.length : Int) ≤ 4096 ∧ 0 ≤ most ∧ most ≤ 1099511627776), Fit (next + (Cn.q1k most (l.length : Int).toNat))] ?_ (Zj (p := ((next + (Cn.q1k most (l.length : Int).toNat)) > 65537)) (fun h3 => ?_) fun h3 => ?_))))
     ·
      refine ap ?_ (ap ?_ az) <;>
       first | omega | (simp only [Int.toNat_natCast]; constructor <;> omega)
     ·
      have hr := Cn.k5i g0 h36_ h44_ (by have := h3; simp only [Int.toNat_natCast] at this; omega)
      exact Sz hcx [] [6, 7, 8, 9] [52, 0, 1, 2] [] (Zr (Fr (Fp 6 (.ints []) (Fw 7 700 22 (.intss []) (Fn [(700, .to 0)] [6, 7, 8, 9] (Rv hcx (congrArg AV.tup (q0c (congrArg AV.ints (show [] = (Cn.q4g most l next).1 from (by (rw [hr]; done)))) (q0c rfl (q0c (congrArg AV.int (show 0 = (Cn.q4g most l next).2.2.1 from (by (rw [hr]; done)))) (q0c (congrArg AV.int (show 2 = (Cn.q4g most l next).2.2.2 from (by (rw [hr]; done)))) rfl))))) [true] (q0r (congrArg some (congrArg (fun x => q0d.row 22 (.intss x)) (show [] = (Cn.q4g most l next).2.1 from (by (rw [hr]; done))))) rfl)))))))
     ·
      have h52_ : next + Cn.q1k most l.length ≤ 65537 := by have := h3; simp only [Int.toNat_natCast] at this; omega
      have hr := Cn.x8z g0 h36_ h44_ h52_
      refine Zk (Ft (Sq hcx [(1004, .to 258), (1008, .to 611)] [11, 12] [52, 0, 1, 2] [] [((1 ≤ l.length ∧ l.length ≤ 4096) ∧ (∀ x ∈ l, -65537 ≤ x ∧ x ≤ 65537) ∧ (0 ≤ most ∧ most ≤ 1099511627776) ∧ 1 ≤ next ∧ next + Cn.q1k most l.length ≤ 65537)] ?_ (Sd hcx hmx [0, 0, 2, 0, 8, 1, 39, 127, 255] [] [6, 7, 8, 9] [11, 12] [611] [] az (Zr (Fn [(258, .to 0)] [6, 7, 8, 9] (Rv hcx (congrArg AV.tup (q0c (congrArg AV.ints (show (Cn.rtT most l (next, ([] : List (List Int)))).1 = (Cn.q4g most l next).1 from (by (rw [hr]; done)))) (q0c rfl (q0c (congrArg AV.int (show (Cn.rtT most l (next, ([] : List (List Int)))).2.1 = (Cn.q4g most l next).2.2.1 from (by (rw [hr]; done)))) (q0c (congrArg AV.int (show 0 = (Cn.q4g most l next).2.2.2 from (by (rw [hr]; done)))) rfl))))) [true] (q0r (congrArg some (congrArg (fun x => q0d.row 22 (.intss x)) (show (Cn.rtT most l (next, ([] : List (List Int)))).2.2 = (Cn.q4g most l next).2.1 from (by (rw [hr]; done))))) rfl)))))))
      ·
       refine ap ?_ az
       exact ⟨⟨by omega, g5⟩, hx, ⟨g3, g4⟩, g1, h52_⟩
 ·
  cases hσ
end Go.Proofs.YtkkapbnopmmmjaaGreatDoor.En
namespace Go.Proofs.YtkkapbnopmmmjaaGreatDoor.En
open Go Go.RowKit
def x9f : List (Nat × TD) := [(3, ⟨1, false, [.int .i64 0], [], none, 8, false, 1, 1⟩),
 (4, ⟨1, false, [.bool false], [], none, 1, true, 0, 2⟩),
 (22, ⟨1, false, [.slice none 0 0], [], some 3, 24, false, 0, 53⟩),
 (26, ⟨1, false, [.int .i64 0], [], none, 8, false, 1, 1⟩),
 (30, ⟨1, false, [.slice none 0 0], [], some 22, 24, false, 0, 0⟩),
 (35, ⟨1, false, [.slice none 0 0], [], some 4, 24, false, 0, 0⟩)]
theorem j9m : q7v Tryz.prog x9f := ⟨⟨by kernel_rfl, by kernel_rfl, by kernel_rfl⟩, ⟨by kernel_rfl, by kernel_rfl, by kernel_rfl⟩, ⟨by kernel_rfl, by kernel_rfl, by kernel_rfl⟩, ⟨by kernel_rfl, by kernel_rfl, by kernel_rfl⟩, ⟨by kernel_rfl, by kernel_rfl, by kernel_rfl⟩, ⟨by kernel_rfl, by kernel_rfl, by kernel_rfl⟩, trivial⟩
def z7n : Cx := ⟨x9f, [], true⟩
theorem j1h : q1g Tryz.prog z7n := q1b j9m trivial
def z3r : CtF
 | [.im (.ls (.ints l)), .im (.val (.int .i64 next))], [] => some (l.length ≤ maxLen ∧ (∀ x ∈ l, -9223372036854775807 ≤ x ∧ x ≤ 9223372036854775807) ∧ Fit next, .int (Cn.q1c next l), [])
 | _, _ => none
theorem j1v : q0o Tryz.prog 96 z3r := by
 refine Sw (cx := z7n) Tryz.f96 Tryz.func96 ?_
 intro wW wO wβ G0 args os p r outs hσ hp
 have hcx := j1h
 unfold z3r at hσ
 split at hσ
 ·
  rename_i l next
  cases hσ
  refine ⟨by kernel_rfl, ?_⟩
  obtain ⟨hm1, hx, hn1, hn2⟩ := hp
  unfold maxLen at hm1
  have hb := fun i (h : i < l.length) => hx _ (Cn.q0u (d := (0 : Int)) (k := i) h)
  refine Sz hcx [] [] [] [] (Zs (Sq hcx [] [19] [] [] [((!(decide (next < 1))) = true → ((!(decide (next < 1))) = true)), ((decide (next < 1)) = false → (!(decide (next < 1))) = true), ((!((decide (next < 1)) || (decide (next > 65537)))) = true → ((!((decide (next < 1)) || (decide (next > 65537)))) = true)), ((!((decide (next < 1)) || (decide (next > 65537)))) = true → ((!((decide (next < 1)) || (decide (next > 65537)))) = true)), (((decide (next < 1)) || (decide (next > 65537))) = false → (!((decide (next < 1)) || (decide (next > 65537)))) = true)] ?_ (Zi (b := ((decide (next < 1)) || (decide (next > 65537))) || (decide ((l.length : Int) > 4096))) (fun h0 => ?_) fun h0 => ?_)))
  ·
   refine ap ?_ (ap (by exact q1v) (ap ?_ (ap ?_ (ap (by exact q1v) az)))) <;>
    exact id
  ·
   have hr := Cn.x8p (l := l) h0
   exact Sz hcx [] [4] [19, 0, 1] [] (Zr (Fr (Rv hcx (congrArg AV.int (show 1 = (Cn.q1c next l) from (by first | exact hr.symm | exact (hE.trans (Cn.z7u (by omega) hok)).symm))) [] rfl)))
  ·
   have hg := Cn.k3i (l := l) h0
   have hE := Cn.z7w hg
   obtain ⟨g1, g2, g3⟩ := hg
   refine Zk (Ft (Sq hcx [(1001, .to 221)] [5] [19] [] [((0 : Int) ≤ next ∧ next ≤ (next : Int) ∧ next.toNat * 1 ≤ 140737488355328)] ?_ (Zs (Sz hcx [] [22, 23, 24] [0] [] (Zb (Zn [(221, .to 700)] [1, 5, 22, 23, 24] (Lp (X := Nat) (fun x0 => x0 ≤ l.length ∧ ∀ j, j < x0 → Cn.j2x next l j = true) (fun x0 => ([(1, .int next), (5, .row 700), (22, .ints l), (23, .int (l.length : Int)), (24, .int (x0 : Int))], [(700, .row 4 (.bools (Cn.q5y next l x0)))])) (fun x0 => l.length - x0) (0) ?_ (Ex 24 (congrArg AV.int (show 0 = (0 : Int) from (by first | rfl | omega | (simp; done)))) Eb) (Hx 700 (congrArg (fun x => q0d.row 4 (.bools x)) (show (List.replicate next.toNat false) = (Cn.q5y next l 0) from (by exact Cn.x5i (by omega)))) Hb) fun i hI => ?_)))))))
   ·
    refine ap ?_ az
    omega
   ·
    exact ⟨Nat.zero_le _, fun j hj => by omega⟩
   ·
    try dsimp only at hI
    obtain ⟨hk, hok⟩ := hI
    have hbi := hb i
    have hml := Cn.j9y (next := next) (l := l) (i := i)
    refine Sz hcx [] [25] [] [] (Zs (Zj (p := ((i : Int) < (l.length : Int))) (fun h1 => ?_) fun h1 => ?_))
    ·
     refine Zk (Ft (Zs (Zb (Sq hcx [] [7] [25] [] [((0 : Int) ≤ (i : Int) ∧ (i : Int) < (l.length : Int))] ?_ (Sq hcx [] [8] [7] [] [Fit (-(l.getD i 0))] ?_ (Zs (Sq hcx [] [44] [] [] [((!(decide ((max (l.getD i 0) (-(l.getD i 0))) < 1))) = true → ((!(decide ((max (l.getD i 0) (-(l.getD i 0))) < 1))) = true)), ((!(decide ((max (l.getD i 0) (-(l.getD i 0))) < 1))) = true → ((!(decide ((max (l.getD i 0) (-(l.getD i 0))) < 1))) = true)), ((decide ((max (l.getD i 0) (-(l.getD i 0))) < 1)) = false → (!(decide ((max (l.getD i 0) (-(l.getD i 0))) < 1))) = true), ((!((decide ((max (l.getD i 0) (-(l.getD i 0))) < 1)) || (decide ((max (l.getD i 0) (-(l.getD i 0))) ≥ next)))) = true → ((!((decide ((max (l.getD i 0) (-(l.getD i 0))) < 1)) || (decide ((max (l.getD i 0) (-(l.getD i 0))) ≥ next)))) = true)), ((!((decide ((max (l.getD i 0) (-(l.getD i 0))) < 1)) || (decide ((max (l.getD i 0) (-(l.getD i 0))) ≥ next)))) = true → ((!((decide ((max (l.getD i 0) (-(l.getD i 0))) < 1)) || (decide ((max (l.getD i 0) (-(l.getD i 0))) ≥ next)))) = true)), ((!((decide ((max (l.getD i 0) (-(l.getD i 0))) < 1)) || (decide ((max (l.getD i 0) (-(l.getD i 0))) ≥ next)))) = true → ((0 : Int) ≤ (max (l.getD i 0) (-(l.getD i 0))) ∧ (max (l.getD i 0) (-(l.getD i 0))) < ((Cn.q5y next l i).length : Int))), ((!((decide ((max (l.getD i 0) (-(l.getD i 0))) < 1)) || (decide ((max (l.getD i 0) (-(l.getD i 0))) ≥ next)))) = true → ((!((decide ((max (l.getD i 0) (-(l.getD i 0))) < 1)) || (decide ((max (l.getD i 0) (-(l.getD i 0))) ≥ next)))) = true)), ((!((decide ((max (l.getD i 0) (-(l.getD i 0))) < 1)) || (decide ((max (l.getD i 0) (-(l.getD i 0))) ≥ next)))) = true → (((max (l.getD i 0) (-(l.getD i 0))).toNat) < (Cn.q5y next l i).length)), (((decide ((max (l.getD i 0) (-(l.getD i 0))) < 1)) || (decide ((max (l.getD i 0) (-(l.getD i 0))) ≥ next))) = false → (!((decide ((max (l.getD i 0) (-(l.getD i 0))) < 1)) || (decide ((max (l.getD i 0) (-(l.getD i 0))) ≥ next)))) = true)] ?_ (Zi (b := ((decide ((max (l.getD i 0) (-(l.getD i 0))) < 1)) || (decide ((max (l.getD i 0) (-(l.getD i 0))) ≥ next))) || ((Cn.q5y next l i).getD ((max (l.getD i 0) (-(l.getD i 0))).toNat) false)) (fun h2 => ?_) fun h2 => ?_))))))))
     ·
      refine ap ?_ az
      omega
     ·
      refine ap ?_ az
      omega
     ·
      refine ap ?_ (ap ?_ (ap (by exact q1v) (ap ?_ (ap ?_ (ap ?_ (ap ?_ (ap ?_ (ap (by exact q1v) az)))))))) <;>
       first | exact id | (intro hg; have hg2 := Cn.k6p hg; rw [hml]; omega)
     ·
      have hr := hE.trans (Cn.x0a (by omega) rfl h2)
      exact Sz hcx [] [4] [44, 8, 1, 5, 22, 23, 24] [700] (Zr (Fr (Fk (Fr (Fr (Fk (Fr (Rv hcx (congrArg AV.int (show 140 = (Cn.q1c next l) from (by first | exact hr.symm | exact (hE.trans (Cn.z7u (by omega) hok)).symm))) [] rfl))))))))
     ·
      obtain ⟨hq, hw1, hw2⟩ := Cn.k3o rfl h2
      refine Zk (Ft (Tq hcx [(700, .to 700)] [] [44, 8] [] [((0 : Int) ≤ (max (l.getD i 0) (-(l.getD i 0))) ∧ (max (l.getD i 0) (-(l.getD i 0))) < ((Cn.q5y next l i).length : Int)), (((max (l.getD i 0) (-(l.getD i 0))).toNat) < (Cn.q5y next l i).length)] ?_ (Fb (Ft (Tq hcx [] [24] [] [] [Fit ((i : Int) + 1)] ?_ (Lr (i + 1) ?_ ?_ (Ex 24 (congrArg AV.int (show ((i : Int) + 1) = ((i + 1) : Int) from (by first | rfl | omega | (simp; done)))) Eb) (Hx 700 (congrArg (fun x => q0d.row 4 (.bools x)) (show ((Cn.q5y next l i).set ((max (l.getD i 0) (-(l.getD i 0))).toNat) true) = (Cn.q5y next l (i + 1)) from (by exact Cn.z3w (by omega) rfl hw1))) Hb)))))))
      ·
       refine ap ?_ (ap ?_ az) <;>
        omega
      ·
       refine ap ?_ az
       omega
      ·
       exact ⟨by omega, fun j hj => by rcases (by omega : j < i ∨ j = i) with h | rfl; exact hok j h; exact hq⟩
      ·
       show l.length - (i + 1) < l.length - i
       omega
    ·
     exact Ze (Fe (Fe (Fs (Ft (Sz hcx [] [4] [25, 1, 5, 22, 23, 24] [700] (Zr (Rv hcx (congrArg AV.int (show 0 = (Cn.q1c next l) from (by first | exact hr.symm | exact (hE.trans (Cn.z7u (by omega) hok)).symm))) [] rfl)))))))
 ·
  cases hσ
def z3l : Cx := ⟨x9f, [(96, (q2g [.ld (.ints []), .id] z3r))], true⟩
theorem z6q : q1g Tryz.prog z3l := q1b j9m ⟨(j1v.coe [.ld (.ints []), .id] rfl), trivial⟩
def z1l : CtF
 | [.im (.ls (.ints l)), .im (.val (.int .i64 k)), .im (.val (.int .i64 next))], [] => some (l.length ≤ maxLen ∧ (∀ x ∈ l, -70000 ≤ x ∧ x ≤ 70000) ∧ Fit k ∧ Fit next, .tup [.intss ((Cn.q0i l k next).1), .int ((Cn.q0i l k next).2.1), .int ((Cn.q0i l k next).2.2)], [])
 | _, _ => none
set_option maxRecDepth 4000 in
set_option maxHeartbeats 4000000 in
theorem z6j : q0o Tryz.prog 44 z1l := by
 refine Sw (cx := z3l) Tryz.f44 Tryz.func44 ?_
 intro wW wO wβ G0 args os p r outs hσ hp
 have hcx := z6q
 unfold z1l at hσ
 split at hσ
 ·
  rename_i l k next
  cases hσ
  refine ⟨by kernel_rfl, ?_⟩
  obtain ⟨hm1, hm2, hf1, hf2⟩ := hp
  have hm3 := hm1
  unfold maxLen at hm3
  have hx2 : ∀ x ∈ l, -9223372036854775807 ≤ x ∧ x ≤ 9223372036854775807 := fun x hxm => by have := hm2 x hxm; omega
  refine Sz hcx [] [] [] [] (Zs (Sq hcx [] [9] [] [] [(l.length ≤ maxLen ∧ (∀ x ∈ l, -9223372036854775807 ≤ x ∧ x ≤ 9223372036854775807) ∧ Fit next)] ?_ (Sz hcx [] [25] [] [] (Zx (a := (Cn.q1c next l)) (b := 0) (fun h0 => ?_) fun h0 => ?_))))
  ·
   refine ap ?_ az
   exact ⟨hm1, hx2, hf2⟩
  ·
   have hr := Cn.y1f (k := k) h0
   exact Sz hcx [] [6, 7, 8] [25, 9, 0, 1, 2] [] (Zr (Fr (Fp 6 (.intss []) (Rv hcx (congrArg AV.tup (q0c (congrArg AV.intss (show [] = (Cn.q0i l k next).1 from (by first | (rw [hr]; done) | (rw [hr, ← hil2, Cn.q1f hil2 (by omega) (by omega) g1]; done) | (rw [hr, ← hil2]; done)))) (q0c (congrArg AV.int (show 0 = (Cn.q0i l k next).2.1 from (by first | (rw [hr]; done) | (rw [hr, ← hil2, Cn.q1f hil2 (by omega) (by omega) g1]; done) | (rw [hr, ← hil2]; done)))) (q0c (congrArg AV.int (show (Cn.q1c next l) = (Cn.q0i l k next).2.2 from (by first | (rw [hr]; done) | (rw [hr, ← hil2, Cn.q1f hil2 (by omega) (by omega) g1]; done) | (rw [hr, ← hil2]; done)))) rfl)))) [] rfl))))
  ·
   have h0 : Cn.q1c next l = 0 := by have := h0; omega
   obtain ⟨g1, g2, g3⟩ := Cn.z4r h0
   have hnz := Cn.x2c h0
   refine Zk (Ft (Sz hcx [] [10] [25, 9] [] (Zs (Sz hcx [] [30] [] [] (Zj (p := (k ≤ 0)) (fun h1 => ?_) fun h1 => ?_)))))
   ·
    have hr := Cn.k5v h0 h1
    exact Sz hcx [] [6, 7, 8] [30, 10, 0, 1, 2] [] (Zr (Fr (Fp 6 (.intss []) (Rv hcx (congrArg AV.tup (q0c (congrArg AV.intss (show [] = (Cn.q0i l k next).1 from (by first | (rw [hr]; done) | (rw [hr, ← hil2, Cn.q1f hil2 (by omega) (by omega) g1]; done) | (rw [hr, ← hil2]; done)))) (q0c (congrArg AV.int (show next = (Cn.q0i l k next).2.1 from (by first | (rw [hr]; done) | (rw [hr, ← hil2, Cn.q1f hil2 (by omega) (by omega) g1]; done) | (rw [hr, ← hil2]; done)))) (q0c (congrArg AV.int (show 0 = (Cn.q0i l k next).2.2 from (by first | (rw [hr]; done) | (rw [hr, ← hil2, Cn.q1f hil2 (by omega) (by omega) g1]; done) | (rw [hr, ← hil2]; done)))) rfl)))) [] rfl))))
   ·
    have h30_ := h1
    refine Zk (Ft (Zs (Sz hcx [] [34] [30] [] (Zj (p := (k > (l.length : Int))) (fun h2 => ?_) fun h2 => ?_))))
    ·
     have hr := Cn.k5n h0 h30_ h2
     exact Sz hcx [] [6, 7, 8] [34, 10, 0, 1, 2] [] (Zr (Fr (Rv hcx (congrArg AV.tup (q0c (congrArg AV.intss (show [[]] = (Cn.q0i l k next).1 from (by first | (rw [hr]; done) | (rw [hr, ← hil2, Cn.q1f hil2 (by omega) (by omega) g1]; done) | (rw [hr, ← hil2]; done)))) (q0c (congrArg AV.int (show next = (Cn.q0i l k next).2.1 from (by first | (rw [hr]; done) | (rw [hr, ← hil2, Cn.q1f hil2 (by omega) (by omega) g1]; done) | (rw [hr, ← hil2]; done)))) (q0c (congrArg AV.int (show 0 = (Cn.q0i l k next).2.2 from (by first | (rw [hr]; done) | (rw [hr, ← hil2, Cn.q1f hil2 (by omega) (by omega) g1]; done) | (rw [hr, ← hil2]; done)))) rfl)))) [] rfl)))
    ·
     have h34_ := h2
     have hcb := fun i => Cn.j8w (k := k) (next := next) (by omega) ⟨g1, g2⟩ i
     have hc2 := fun i => Cn.k3u (k := k) (next := next) (by omega) i
     have hc1 := fun i => Cn.k2u (k := k) (next := next) (by omega) g1 i
     have hcu := fun i => Cn.y1j (k := k) (next := next) (by omega) i
     refine Zk (Ft (Sq hcx [] [11] [34] [] [Fit (next - 1)] ?_ (Zs (Sz hcx [] [12] [] [] (Zb (Lp (X := Nat) (fun x0 => x0 ≤ l.length) (fun x0 => ([(0, .ints l), (1, .int k), (2, .int next), (10, .int (l.length : Int)), (11, .int ((Cn.cAb k next x0).2.2 - 1)), (12, .int ((x0 : Int) + 1))], [])) (fun x0 => l.length - x0) (0) ?_ Eb Hb fun i hI => ?_))))))
     ·
      refine ap ?_ az
      omega
     ·
      show 0 ≤ l.length
      omega
     ·
      replace hI : i ≤ l.length := hI
      have hci := hcb i
      refine Zs (Sz hcx [] [42] [] [] (Zj (p := (((i : Int) + 1) ≤ (l.length : Int))) (fun h3 => ?_) fun h3 => ?_))
      ·
       refine Zk (Ft (Zs (Zb (Tq hcx [] [11] [42] [] [Fit (((Cn.cAb k next i).2.2 - 1) + (min ((i : Int) + 1) k))] ?_ (Fb (Ft (Tq hcx [] [12] [] [] [Fit (((i : Int) + 1) + 1)] ?_ (Lr (i + 1) ?_ ?_ (Ex 11 (congrArg AV.int (show (((Cn.cAb k next i).2.2 - 1) + (min ((i : Int) + 1) k)) = ((Cn.cAb k next (i + 1)).2.2 - 1) from (by exact Cn.k5c))) (Ex 12 (congrArg AV.int (show (((i : Int) + 1) + 1) = (((i + 1) : Int) + 1) from (by omega))) Eb)) Hb))))))))
       ·
        refine ap ?_ az
        omega
       ·
        refine ap ?_ az
        omega
       ·
        show (i + 1) ≤ l.length
        omega
       ·
        show l.length - (i + 1) < l.length - i
        omega
      ·
       have hil : i = l.length := by have := h3; omega
       skip
       refine Ze (Fe (Fe (Fs (Ft (Zs (Sz hcx [] [51] [42, 11, 12] [] (Zj (p := (((Cn.cAb k next i).2.2 - 1) > 65536)) (fun h4 => ?_) fun h4 => ?_)))))))
       ·
        have hr := Cn.x2p h0 h30_ h34_ (by rw [← hil]; exact h4)
        exact Sz hcx [] [6, 7, 8] [51, 0, 1, 2, 10] [] (Zr (Fr (Fp 6 (.intss []) (Rv hcx (congrArg AV.tup (q0c (congrArg AV.intss (show [] = (Cn.q0i l k next).1 from (by first | (rw [hr]; done) | (rw [hr, ← hil2, Cn.q1f hil2 (by omega) (by omega) g1]; done) | (rw [hr, ← hil2]; done)))) (q0c (congrArg AV.int (show 0 = (Cn.q0i l k next).2.1 from (by first | (rw [hr]; done) | (rw [hr, ← hil2, Cn.q1f hil2 (by omega) (by omega) g1]; done) | (rw [hr, ← hil2]; done)))) (q0c (congrArg AV.int (show 2 = (Cn.q0i l k next).2.2 from (by first | (rw [hr]; done) | (rw [hr, ← hil2, Cn.q1f hil2 (by omega) (by omega) g1]; done) | (rw [hr, ← hil2]; done)))) rfl)))) [] rfl))))
       ·
        have h51_ : ¬ (Cn.cAb k next l.length).2.2 - 1 > 65536 := by rw [← hil]; exact h4
        refine Zk (Ft (Sz hcx [] [13] [51] [] (Sz hcx [] [14, 15] [2] [] (Zs (Sz hcx [] [16] [] [] (Zb (Zw 13 701 22 (.intss []) (Lp (X := Nat) (fun x0 => x0 ≤ l.length) (fun x0 => ([(0, .ints l), (1, .int k), (10, .int (l.length : Int)), (13, .row 701), (14, .int ((Cn.cAb k next x0).2.2)), (15, .int ((Cn.cAb k next x0).1)), (16, .int ((x0 : Int) + 1))], [(701, .row 22 (.intss (Cn.q3l l k next x0)))])) (fun x0 => l.length - x0) (0) ?_ Eb Hb fun i2 hI => ?_))))))))
        ·
         show 0 ≤ l.length
         omega
        ·
         replace hI : i2 ≤ l.length := hI
         have hci := hcb i2
         have hcl := Cn.z3b (l := l) (k := k) (next := next) (by omega) i2
         have hb := fun (h : i2 < l.length) => hm2 _ (Cn.q0u (d := (0 : Int)) (k := i2) h)
         refine Zs (Sz hcx [] [55] [] [] (Zj (p := (((i2 : Int) + 1) ≤ (l.length : Int))) (fun h5 => ?_) fun h5 => ?_))
         ·
          refine Zk (Ft (Zs (Zb (Zs (Sz hcx [] [17] [55] [] (Zb (Zn [(701, .to 702)] [0, 1, 10, 13, 14, 15, 16, 17] (Lp (X := Nat) (fun x0 => (x0 : Int) ≤ min ((i2 : Int) + 1) k) (fun x0 => ([(0, .ints l), (1, .int k), (10, .int (l.length : Int)), (13, .row 702), (14, .int ((Cn.cAb k next i2).2.2)), (15, .int ((Cn.cAb k next i2).1)), (16, .int ((i2 : Int) + 1)), (17, .int ((x0 : Int) + 1))], [(702, .row 22 (.intss (Cn.q3l l k next i2 ++ (Cn.q4x (Cn.cAb k next i2).2.2 (min ((i2 : Int) + 1) k) (Cn.cAb k next i2).1 (Cn.cAb k next i2).2.1 (l.getD i2 0) x0))))])) (fun x0 => (min ((i2 : Int) + 1) k).toNat - x0) (0) ?_ Eb (Hx 702 (congrArg (fun x => q0d.row 22 (.intss x)) (show (Cn.q3l l k next i2) = (Cn.q3l l k next i2 ++ (Cn.q4x (Cn.cAb k next i2).2.2 (min ((i2 : Int) + 1) k) (Cn.cAb k next i2).1 (Cn.cAb k next i2).2.1 (l.getD i2 0) 0)) from (by exact (List.append_nil _).symm))) Hb) fun j hI => ?_))))))))
          ·
           show (0 : Int) ≤ min ((i2 : Int) + 1) k
           omega
          ·
           try dsimp only at hI
           have hrl := Cn.z2v (Cn.cAb k next i2).2.2 (min ((i2 : Int) + 1) k) (Cn.cAb k next i2).1 (Cn.cAb k next i2).2.1 (l.getD i2 0) j
           refine Zs (Sz hcx [] [62] [] [] (Zj (p := (((j : Int) + 1) ≤ (min ((i2 : Int) + 1) k))) (fun h6 => ?_) fun h6 => ?_))
           ·
            have h62_ : (j : Int) + 1 ≤ min ((i2 : Int) + 1) k := by have := h6; omega
            have hxi := hnz i2 (by omega)
            have hj2 := hc2 i2
            have hu2 := hcu i2
            have hb1 : 1 ≤ (Cn.cAb k next i2).2.2 := by omega
            have hge : l.getD (((i2 : Int) + 1) - 1).toNat 0 = l.getD i2 0 := by rw [show (((i2 : Int) + 1) - 1).toNat = i2 by omega]
            have ha1 : 1 ≤ (Cn.cAb k next i2).2.1 → 1 ≤ (Cn.cAb k next i2).1 := fun h => hc1 i2 (by omega)
            refine Zk (Ft (Zs (Zb (Sq hcx [] [18] [62] [] [Fit ((Cn.cAb k next i2).2.2 + ((j : Int) + 1)), Fit (((Cn.cAb k next i2).2.2 + ((j : Int) + 1)) - 1)] ?_ (Sq hcx [(1002, .to 271)] [19] [] [] [Fit (-(((Cn.cAb k next i2).2.2 + ((j : Int) + 1)) - 1))] ?_ (Sq hcx [(1002, .to 274)] [20] [18] [] [Fit (-(((Cn.cAb k next i2).2.2 + ((j : Int) + 1)) - 1))] ?_ (Zs (Sq hcx [] [80] [] [] [Fit (((i2 : Int) + 1) - 1)] ?_ (Zj (p := (((j : Int) + 1) ≤ (min (((i2 : Int) + 1) - 1) k))) (fun h7 => ?_) fun h7 => ?_)))))))))
            ·
             refine ap ?_ (ap ?_ az) <;>
              omega
            ·
             refine ap ?_ az
             omega
            ·
             refine ap ?_ az
             omega
            ·
             refine ap ?_ az
             omega
            ·
             have h80_ : (j : Int) + 1 ≤ (Cn.cAb k next i2).2.1 := by have := h7; rw [hc2]; omega
             refine Sq hcx [(1006, .to 271)] [19] [80] [271] [Fit ((Cn.cAb k next i2).1 + ((j : Int) + 1)), Fit (((Cn.cAb k next i2).1 + ((j : Int) + 1)) - 1), (([(-(((Cn.cAb k next i2).2.2 + ((j : Int) + 1)) - 1))].length + [(((Cn.cAb k next i2).1 + ((j : Int) + 1)) - 1)].length) * 8 ≤ 140737488355328)] ?_ (Tq hcx [(1006, .to 274)] [20] [] [274] [Fit ((Cn.cAb k next i2).1 + ((j : Int) + 1)), Fit (((Cn.cAb k next i2).1 + ((j : Int) + 1)) - 1), (([(-(((Cn.cAb k next i2).2.2 + ((j : Int) + 1)) - 1))].length + [(((Cn.cAb k next i2).1 + ((j : Int) + 1)) - 1)].length) * 8 ≤ 140737488355328)] ?_ (Ft (Sq hcx [(1007, .to 271)] [19] [] [271] [Fit (((i2 : Int) + 1) - 1), ((0 : Int) ≤ (((i2 : Int) + 1) - 1) ∧ (((i2 : Int) + 1) - 1) < (l.length : Int)), ((([(-(((Cn.cAb k next i2).2.2 + ((j : Int) + 1)) - 1))] ++ [(((Cn.cAb k next i2).1 + ((j : Int) + 1)) - 1)]).length + [(l.getD ((((i2 : Int) + 1) - 1).toNat) 0)].length) * 8 ≤ 140737488355328)] ?_ (Sq hcx [(1003, .to 702)] [13] [19] [271, 702] [(((Cn.q3l l k next i2 ++ (Cn.q4x (Cn.cAb k next i2).2.2 (min ((i2 : Int) + 1) k) (Cn.cAb k next i2).1 (Cn.cAb k next i2).2.1 (l.getD i2 0) j)).length + [(([(-(((Cn.cAb k next i2).2.2 + ((j : Int) + 1)) - 1))] ++ [(((Cn.cAb k next i2).1 + ((j : Int) + 1)) - 1)]) ++ [(l.getD ((((i2 : Int) + 1) - 1).toNat) 0)])].length) * 24 ≤ 140737488355328)] ?_ (Sz hcx [] [108] [] [] (Zj (p := (((j : Int) + 1) ≥ 2)) (fun h8 => ?_) fun h8 => ?_))))))
             ·
              refine ap ?_ (ap ?_ (ap ?_ az)) <;>
               first | omega | (simp only [List.length_cons, List.length_nil, List.length_append, List.length_map, List.length_set, List.length_replicate]; omega)
             ·
              refine ap ?_ (ap ?_ (ap ?_ az)) <;>
               first | omega | (simp only [List.length_cons, List.length_nil, List.length_append, List.length_map, List.length_set, List.length_replicate]; omega)
             ·
              refine ap ?_ (ap ?_ (ap ?_ az)) <;>
               first | omega | (simp only [List.length_cons, List.length_nil, List.length_append, List.length_map, List.length_set, List.length_replicate]; omega)
             ·
              refine ap ?_ az
              (simp only [List.length_cons, List.length_nil, List.length_append, List.length_map, List.length_set, List.length_replicate]; omega)
             ·
              have h108_ := h8
              refine Sq hcx [(1006, .to 274)] [20] [108] [274] [Fit ((Cn.cAb k next i2).1 + ((j : Int) + 1)), Fit (((Cn.cAb k next i2).1 + ((j : Int) + 1)) - 2), ((([(-(((Cn.cAb k next i2).2.2 + ((j : Int) + 1)) - 1))] ++ [(((Cn.cAb k next i2).1 + ((j : Int) + 1)) - 1)]).length + [(((Cn.cAb k next i2).1 + ((j : Int) + 1)) - 2)].length) * 8 ≤ 140737488355328)] ?_ (Tq hcx [(1003, .to 702)] [13] [20] [274, 702] [((((Cn.q3l l k next i2 ++ (Cn.q4x (Cn.cAb k next i2).2.2 (min ((i2 : Int) + 1) k) (Cn.cAb k next i2).1 (Cn.cAb k next i2).2.1 (l.getD i2 0) j)) ++ [(([(-(((Cn.cAb k next i2).2.2 + ((j : Int) + 1)) - 1))] ++ [(((Cn.cAb k next i2).1 + ((j : Int) + 1)) - 1)]) ++ [(l.getD ((((i2 : Int) + 1) - 1).toNat) 0)])]).length + [(([(-(((Cn.cAb k next i2).2.2 + ((j : Int) + 1)) - 1))] ++ [(((Cn.cAb k next i2).1 + ((j : Int) + 1)) - 1)]) ++ [(((Cn.cAb k next i2).1 + ((j : Int) + 1)) - 2)])].length) * 24 ≤ 140737488355328)] ?_ (Fb (Ft (Tq hcx [] [17] [] [] [Fit (((j : Int) + 1) + 1)] ?_ (Lr (j + 1) ?_ ?_ (Ex 17 (congrArg AV.int (show (((j : Int) + 1) + 1) = (((j + 1) : Int) + 1) from (by omega))) Eb) (Hx 702 (congrArg (fun x => q0d.row 22 (.intss x)) (show (((Cn.q3l l k next i2 ++ (Cn.q4x (Cn.cAb k next i2).2.2 (min ((i2 : Int) + 1) k) (Cn.cAb k next i2).1 (Cn.cAb k next i2).2.1 (l.getD i2 0) j)) ++ [(([(-(((Cn.cAb k next i2).2.2 + ((j : Int) + 1)) - 1))] ++ [(((Cn.cAb k next i2).1 + ((j : Int) + 1)) - 1)]) ++ [(l.getD ((((i2 : Int) + 1) - 1).toNat) 0)])]) ++ [(([(-(((Cn.cAb k next i2).2.2 + ((j : Int) + 1)) - 1))] ++ [(((Cn.cAb k next i2).1 + ((j : Int) + 1)) - 1)]) ++ [(((Cn.cAb k next i2).1 + ((j : Int) + 1)) - 2)])]) = (Cn.q3l l k next i2 ++ (Cn.q4x (Cn.cAb k next i2).2.2 (min ((i2 : Int) + 1) k) (Cn.cAb k next i2).1 (Cn.cAb k next i2).2.1 (l.getD i2 0) (j + 1))) from (by rw [hge]; first | exact Cn.j2l h108_ (Cn.j2m hb1 h62_ (ha1 (by omega)) h80_ hxi.1) (Cn.x1t hb1 h62_ (ha1 (by omega)) h80_ h108_) | exact Cn.j2l h108_ (Cn.j4v hb1 h62_ h80_ hxi.1) (Cn.x1v hb1 h62_ (ha1 (by omega)) h80_ (by omega) h108_) | exact Cn.j3e h108_ (Cn.j2m hb1 h62_ (ha1 (by omega)) h80_ hxi.1) | exact Cn.j3e h108_ (Cn.j4v hb1 h62_ h80_ hxi.1)))) Hb))))))
              ·
               refine ap ?_ (ap ?_ (ap ?_ az)) <;>
                first | omega | (simp only [List.length_cons, List.length_nil, List.length_append, List.length_map, List.length_set, List.length_replicate]; omega)
              ·
               refine ap ?_ az
               (simp only [List.length_cons, List.length_nil, List.length_append, List.length_map, List.length_set, List.length_replicate]; omega)
              ·
               refine ap ?_ az
               omega
              ·
               try dsimp only
               omega
              ·
               try dsimp only
               omega
             ·
              have h108_ := h8
              refine Zk (Fb (Ft (Tq hcx [] [17] [108, 20] [274] [Fit (((j : Int) + 1) + 1)] ?_ (Lr (j + 1) ?_ ?_ (Ex 17 (congrArg AV.int (show (((j : Int) + 1) + 1) = (((j + 1) : Int) + 1) from (by omega))) Eb) (Hx 702 (congrArg (fun x => q0d.row 22 (.intss x)) (show ((Cn.q3l l k next i2 ++ (Cn.q4x (Cn.cAb k next i2).2.2 (min ((i2 : Int) + 1) k) (Cn.cAb k next i2).1 (Cn.cAb k next i2).2.1 (l.getD i2 0) j)) ++ [(([(-(((Cn.cAb k next i2).2.2 + ((j : Int) + 1)) - 1))] ++ [(((Cn.cAb k next i2).1 + ((j : Int) + 1)) - 1)]) ++ [(l.getD ((((i2 : Int) + 1) - 1).toNat) 0)])]) = (Cn.q3l l k next i2 ++ (Cn.q4x (Cn.cAb k next i2).2.2 (min ((i2 : Int) + 1) k) (Cn.cAb k next i2).1 (Cn.cAb k next i2).2.1 (l.getD i2 0) (j + 1))) from (by rw [hge]; first | exact Cn.j2l h108_ (Cn.j2m hb1 h62_ (ha1 (by omega)) h80_ hxi.1) (Cn.x1t hb1 h62_ (ha1 (by omega)) h80_ h108_) | exact Cn.j2l h108_ (Cn.j4v hb1 h62_ h80_ hxi.1) (Cn.x1v hb1 h62_ (ha1 (by omega)) h80_ (by omega) h108_) | exact Cn.j3e h108_ (Cn.j2m hb1 h62_ (ha1 (by omega)) h80_ hxi.1) | exact Cn.j3e h108_ (Cn.j4v hb1 h62_ h80_ hxi.1)))) Hb)))))
              ·
               refine ap ?_ az
               omega
              ·
               try dsimp only
               omega
              ·
               try dsimp only
               omega
            ·
             have h80_ : ¬ (j : Int) + 1 ≤ (Cn.cAb k next i2).2.1 := by have := h7; rw [hc2]; omega
             refine Zk (Ft (Sq hcx [(1007, .to 271)] [19] [80] [271] [Fit (((i2 : Int) + 1) - 1), ((0 : Int) ≤ (((i2 : Int) + 1) - 1) ∧ (((i2 : Int) + 1) - 1) < (l.length : Int)), (([(-(((Cn.cAb k next i2).2.2 + ((j : Int) + 1)) - 1))].length + [(l.getD ((((i2 : Int) + 1) - 1).toNat) 0)].length) * 8 ≤ 140737488355328)] ?_ (Sq hcx [(1003, .to 702)] [13] [19] [271, 702] [(((Cn.q3l l k next i2 ++ (Cn.q4x (Cn.cAb k next i2).2.2 (min ((i2 : Int) + 1) k) (Cn.cAb k next i2).1 (Cn.cAb k next i2).2.1 (l.getD i2 0) j)).length + [([(-(((Cn.cAb k next i2).2.2 + ((j : Int) + 1)) - 1))] ++ [(l.getD ((((i2 : Int) + 1) - 1).toNat) 0)])].length) * 24 ≤ 140737488355328)] ?_ (Sz hcx [] [108] [] [] (Zj (p := (((j : Int) + 1) ≥ 2)) (fun h9 => ?_) fun h9 => ?_)))))
             ·
              refine ap ?_ (ap ?_ (ap ?_ az)) <;>
               first | omega | (simp only [List.length_cons, List.length_nil, List.length_append, List.length_map, List.length_set, List.length_replicate]; omega)
             ·
              refine ap ?_ az
              (simp only [List.length_cons, List.length_nil, List.length_append, List.length_map, List.length_set, List.length_replicate]; omega)
             ·
              have h108_ := h9
              refine Sq hcx [(1006, .to 274)] [20] [108] [274] [Fit ((Cn.cAb k next i2).1 + ((j : Int) + 1)), Fit (((Cn.cAb k next i2).1 + ((j : Int) + 1)) - 2), (([(-(((Cn.cAb k next i2).2.2 + ((j : Int) + 1)) - 1))].length + [(((Cn.cAb k next i2).1 + ((j : Int) + 1)) - 2)].length) * 8 ≤ 140737488355328)] ?_ (Tq hcx [(1003, .to 702)] [13] [20] [274, 702] [((((Cn.q3l l k next i2 ++ (Cn.q4x (Cn.cAb k next i2).2.2 (min ((i2 : Int) + 1) k) (Cn.cAb k next i2).1 (Cn.cAb k next i2).2.1 (l.getD i2 0) j)) ++ [([(-(((Cn.cAb k next i2).2.2 + ((j : Int) + 1)) - 1))] ++ [(l.getD ((((i2 : Int) + 1) - 1).toNat) 0)])]).length + [([(-(((Cn.cAb k next i2).2.2 + ((j : Int) + 1)) - 1))] ++ [(((Cn.cAb k next i2).1 + ((j : Int) + 1)) - 2)])].length) * 24 ≤ 140737488355328)] ?_ (Fb (Ft (Tq hcx [] [17] [] [] [Fit (((j : Int) + 1) + 1)] ?_ (Lr (j + 1) ?_ ?_ (Ex 17 (congrArg AV.int (show (((j : Int) + 1) + 1) = (((j + 1) : Int) + 1) from (by omega))) Eb) (Hx 702 (congrArg (fun x => q0d.row 22 (.intss x)) (show (((Cn.q3l l k next i2 ++ (Cn.q4x (Cn.cAb k next i2).2.2 (min ((i2 : Int) + 1) k) (Cn.cAb k next i2).1 (Cn.cAb k next i2).2.1 (l.getD i2 0) j)) ++ [([(-(((Cn.cAb k next i2).2.2 + ((j : Int) + 1)) - 1))] ++ [(l.getD ((((i2 : Int) + 1) - 1).toNat) 0)])]) ++ [([(-(((Cn.cAb k next i2).2.2 + ((j : Int) + 1)) - 1))] ++ [(((Cn.cAb k next i2).1 + ((j : Int) + 1)) - 2)])]) = (Cn.q3l l k next i2 ++ (Cn.q4x (Cn.cAb k next i2).2.2 (min ((i2 : Int) + 1) k) (Cn.cAb k next i2).1 (Cn.cAb k next i2).2.1 (l.getD i2 0) (j + 1))) from (by rw [hge]; first | exact Cn.j2l h108_ (Cn.j2m hb1 h62_ (ha1 (by omega)) h80_ hxi.1) (Cn.x1t hb1 h62_ (ha1 (by omega)) h80_ h108_) | exact Cn.j2l h108_ (Cn.j4v hb1 h62_ h80_ hxi.1) (Cn.x1v hb1 h62_ (ha1 (by omega)) h80_ (by omega) h108_) | exact Cn.j3e h108_ (Cn.j2m hb1 h62_ (ha1 (by omega)) h80_ hxi.1) | exact Cn.j3e h108_ (Cn.j4v hb1 h62_ h80_ hxi.1)))) Hb))))))
              ·
               refine ap ?_ (ap ?_ (ap ?_ az)) <;>
                first | omega | (simp only [List.length_cons, List.length_nil, List.length_append, List.length_map, List.length_set, List.length_replicate]; omega)
              ·
               refine ap ?_ az
               (simp only [List.length_cons, List.length_nil, List.length_append, List.length_map, List.length_set, List.length_replicate]; omega)
              ·
               refine ap ?_ az
               omega
              ·
               try dsimp only
               omega
              ·
               try dsimp only
               omega
             ·
              have h108_ := h9
              refine Zk (Fb (Ft (Tq hcx [] [17] [108, 20] [274] [Fit (((j : Int) + 1) + 1)] ?_ (Lr (j + 1) ?_ ?_ (Ex 17 (congrArg AV.int (show (((j : Int) + 1) + 1) = (((j + 1) : Int) + 1) from (by omega))) Eb) (Hx 702 (congrArg (fun x => q0d.row 22 (.intss x)) (show ((Cn.q3l l k next i2 ++ (Cn.q4x (Cn.cAb k next i2).2.2 (min ((i2 : Int) + 1) k) (Cn.cAb k next i2).1 (Cn.cAb k next i2).2.1 (l.getD i2 0) j)) ++ [([(-(((Cn.cAb k next i2).2.2 + ((j : Int) + 1)) - 1))] ++ [(l.getD ((((i2 : Int) + 1) - 1).toNat) 0)])]) = (Cn.q3l l k next i2 ++ (Cn.q4x (Cn.cAb k next i2).2.2 (min ((i2 : Int) + 1) k) (Cn.cAb k next i2).1 (Cn.cAb k next i2).2.1 (l.getD i2 0) (j + 1))) from (by rw [hge]; first | exact Cn.j2l h108_ (Cn.j2m hb1 h62_ (ha1 (by omega)) h80_ hxi.1) (Cn.x1t hb1 h62_ (ha1 (by omega)) h80_ h108_) | exact Cn.j2l h108_ (Cn.j4v hb1 h62_ h80_ hxi.1) (Cn.x1v hb1 h62_ (ha1 (by omega)) h80_ (by omega) h108_) | exact Cn.j3e h108_ (Cn.j2m hb1 h62_ (ha1 (by omega)) h80_ hxi.1) | exact Cn.j3e h108_ (Cn.j4v hb1 h62_ h80_ hxi.1)))) Hb)))))
              ·
               refine ap ?_ az
               omega
              ·
               try dsimp only
               omega
              ·
               try dsimp only
               omega
           ·
            have h62_ : (j : Int) = min ((i2 : Int) + 1) k := by have := h6; omega
            refine Ze (Fe (Fe (Fs (Ft (Sz hcx [] [15] [62, 17] [] (Tq hcx [] [14] [] [] [Fit ((Cn.cAb k next i2).2.2 + (min ((i2 : Int) + 1) k))] ?_ (Fb (Ft (Tq hcx [] [16] [] [] [Fit (((i2 : Int) + 1) + 1)] ?_ (Fn [(702, .to 701)] [0, 1, 10, 13, 14, 15, 16] (Lr (i2 + 1) ?_ ?_ (Ex 16 (congrArg AV.int (show (((i2 : Int) + 1) + 1) = (((i2 + 1) : Int) + 1) from (by omega))) Eb) (Hx 701 (congrArg (fun x => q0d.row 22 (.intss x)) (show (Cn.q3l l k next i2 ++ (Cn.q4x (Cn.cAb k next i2).2.2 (min ((i2 : Int) + 1) k) (Cn.cAb k next i2).1 (Cn.cAb k next i2).2.1 (l.getD i2 0) j)) = (Cn.q3l l k next (i2 + 1)) from (by exact Cn.x9o h62_))) Hb))))))))))))
            ·
             refine ap ?_ az
             omega
            ·
             refine ap ?_ az
             omega
            ·
             show (i2 + 1) ≤ l.length
             omega
            ·
             show l.length - (i2 + 1) < l.length - i2
             omega
         ·
          have hil2 : i2 = l.length := by have := h5; omega
          refine Ze (Fe (Fe (Fs (Ft (Sq hcx [(1007, .to 701)] [13] [55, 0, 1, 10, 15, 16] [701] [Fit ((Cn.cAb k next i2).1 + k), Fit (((Cn.cAb k next i2).1 + k) - 1), (((Cn.q3l l k next i2).length + [[(((Cn.cAb k next i2).1 + k) - 1)]].length) * 24 ≤ 140737488355328)] ?_ (Zs (Sz hcx [] [136] [] [] (Zj (p := ((((Cn.q3l l k next i2) ++ [[(((Cn.cAb k next i2).1 + k) - 1)]]).length : Int) > 65536)) (fun h10 => ?_) fun h10 => ?_))))))))
          ·
           refine ap ?_ (ap ?_ (ap ?_ az)) <;>
            first | omega | (simp only [List.length_cons, List.length_nil, List.length_append, List.length_map, List.length_set, List.length_replicate]; omega)
          ·
           have hr := Cn.x3f h0 h30_ h34_ (by rw [← hil2]; have := h10; simp only [List.length_append, List.length_cons, List.length_nil] at this; omega)
           exact Sz hcx [] [6, 7, 8] [136, 13, 14] [701] (Zr (Fr (Fp 6 (.intss []) (Rv hcx (congrArg AV.tup (q0c (congrArg AV.intss (show [] = (Cn.q0i l k next).1 from (by first | (rw [hr]; done) | (rw [hr, ← hil2, Cn.q1f hil2 (by omega) (by omega) g1]; done) | (rw [hr, ← hil2]; done)))) (q0c (congrArg AV.int (show 0 = (Cn.q0i l k next).2.1 from (by first | (rw [hr]; done) | (rw [hr, ← hil2, Cn.q1f hil2 (by omega) (by omega) g1]; done) | (rw [hr, ← hil2]; done)))) (q0c (congrArg AV.int (show 2 = (Cn.q0i l k next).2.2 from (by first | (rw [hr]; done) | (rw [hr, ← hil2, Cn.q1f hil2 (by omega) (by omega) g1]; done) | (rw [hr, ← hil2]; done)))) rfl)))) [] rfl))))
          ·
           have hr := Cn.k2p h0 h30_ h34_ h51_ (by rw [← hil2]; have := h10; simp only [List.length_append, List.length_cons, List.length_nil] at this; omega)
           exact Zk (Ft (Sz hcx [] [6, 7, 8] [136, 13, 14] [] (Zr (Fn [(701, .frz)] [6, 7, 8] (Rv hcx (congrArg AV.tup (q0c (congrArg AV.intss (show ((Cn.q3l l k next i2) ++ [[(((Cn.cAb k next i2).1 + k) - 1)]]) = (Cn.q0i l k next).1 from (by first | (rw [hr]; done) | (rw [hr, ← hil2, Cn.q1f hil2 (by omega) (by omega) g1]; done) | (rw [hr, ← hil2]; done)))) (q0c (congrArg AV.int (show (Cn.cAb k next i2).2.2 = (Cn.q0i l k next).2.1 from (by first | (rw [hr]; done) | (rw [hr, ← hil2, Cn.q1f hil2 (by omega) (by omega) g1]; done) | (rw [hr, ← hil2]; done)))) (q0c (congrArg AV.int (show 0 = (Cn.q0i l k next).2.2 from (by first | (rw [hr]; done) | (rw [hr, ← hil2, Cn.q1f hil2 (by omega) (by omega) g1]; done) | (rw [hr, ← hil2]; done)))) rfl)))) [] rfl)))))
 ·
  cases hσ
end Go.Proofs.YtkkapbnopmmmjaaGreatDoor.En
