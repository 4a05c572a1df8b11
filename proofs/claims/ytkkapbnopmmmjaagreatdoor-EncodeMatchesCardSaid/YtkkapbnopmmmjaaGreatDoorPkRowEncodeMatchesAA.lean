/- Lemmas and contracts for the row. -/
import Derived.Test.YtkkapbnopmmmjaaGreatDoorPkRowEncodeMatchesY
import Derived.Test.YtkkapbnopmmmjaaGreatDoorPkRowEncodeMatchesV
import Derived.Test.YtkkapbnopmmmjaaGreatDoorPkRowEncodeMatchesL
set_option linter.unusedVariables false
set_option linter.unusedSimpArgs false
set_option linter.unnecessarySimpa false
namespace Go.Proofs.YtkkapbnopmmmjaaGreatDoor.En
open Go Go.RowKit
abbrev k8g (l : q2j) : AV := .agg [.ints l.C, .ints l.L, .int l.B]
theorem z7s {W : World} {G : Nat → Prop} {C L : List Int} {B : Int} {u : Value} (hG : ∀ b, G b → b < W.heap.size) (h : Den (g0 W G) (.agg [.ints C, .ints L, .int B]) u) :
 ∃ A A' c c', u = x2k A A' c c' ⟨C, L, B⟩ ∧ z6n W A A' ⟨C, L, B⟩ := by
 simp only [Den] at h
 obtain ⟨vs, rfl, hl⟩ := h
 obtain ⟨a, b, c, rfl, h1, h2, h3⟩ := j7z hl
 simp only [Den] at h1 h2
 obtain ⟨A, k, rfl, r1, m1⟩ := q7a h1 hG
 obtain ⟨A', k', rfl, r2, m2⟩ := q7a h2 hG
 rw [q0h h3]
 exact ⟨A, A', k, k', rfl, r1, r2, m1, m2⟩
theorem y2g {W W' : World} {G : Nat → Prop} {A L : Option Addr} {cA cL : Nat} {l : q2j} (h : z5g W.heap.size W' A L cA cL l) :
 Den (g0 W' (fun b => G b ∨ (W.heap.size ≤ b ∧ b < W'.heap.size))) (k8g l) (x2k A L cA cL l) := by
 simp only [Den]
 refine ⟨[_, _, _], rfl, ?_⟩
 simp only [q0l]
 refine ⟨_, _, rfl, ?_, _, _, rfl, ?_, _, _, rfl, ?_, rfl⟩
 · simp only [Den]
   exact z0u h.c (by have := h.len.1; unfold maxLen; omega) (fun b hb => .inr ⟨h.cB b hb, h.c.lt hb⟩)
 · simp only [Den]
   exact z0u h.li (by have := h.len.2; unfold maxLen; omega) (fun b hb => .inr ⟨h.lB b hb, h.li.lt hb⟩)
 · exact q0g _
def z2m : y7z
 | [.agg [.im (.ls (.ints C)), .im (.ls (.ints L)), .im (.val (.int .i64 B))], .im (.val (.int .i64 n))] => some (True, .int (q0m ⟨C, L, B⟩ n))
 | _ => none
theorem z2c : z7y Tryz.prog 22 z2m := by
 refine ⟨fun args W => q2w (fn := Tryz.f22) Tryz.func22 (by kernel_rfl) rfl args W, fun W G args vs p r hG hs _ hd => ?_⟩
 unfold z2m at hs
 split at hs
 · simp only [Option.some.injEq, Prod.mk.injEq] at hs
   obtain ⟨rfl, rfl⟩ := hs
   obtain ⟨u, u', rfl, h1, h2⟩ := q3v hd
   obtain ⟨A, A', c, c', rfl, hA⟩ := z7s hG h1
   rw [q0h h2]
   refine (z7h A A' c c' _ _ W hA).mono ?_
   rintro e w' ⟨rfl, hb⟩
   exact ⟨_, rfl, hb, q0g _⟩
 · cases hs
def j0h : y7z
 | [.agg [.im (.ls (.ints C)), .im (.ls (.ints L)), .im (.val (.int .i64 B))]] => some (True, k8g (q0b ⟨C, L, B⟩))
 | _ => none
theorem z3q : z7y Tryz.prog 33 j0h := by
 refine ⟨fun args W => q2w (fn := Tryz.f33) Tryz.func33 (by kernel_rfl) rfl args W, fun W G args vs p r hG hs _ hd => ?_⟩
 unfold j0h at hs
 split at hs
 · simp only [Option.some.injEq, Prod.mk.injEq] at hs
   obtain ⟨rfl, rfl⟩ := hs
   obtain ⟨u, rfl, h1⟩ := q3s hd
   obtain ⟨A, A', c, c', rfl, hA⟩ := z7s hG h1
   refine (x1q A A' c c' _ W hA).mono ?_
   rintro e w' ⟨A1, L1, k1, k2, rfl, ho, hb⟩
   exact ⟨_, rfl, hb, y2g ho⟩
 · cases hs
end Go.Proofs.YtkkapbnopmmmjaaGreatDoor.En
namespace Go.Proofs.YtkkapbnopmmmjaaGreatDoor.En
open Go Go.RowKit
def k1g : List (Nat × TD) := [(3, ⟨1, false, [.int .i64 0], [], none, 8, false, 1, 1⟩),
 (22, ⟨1, false, [.slice none 0 0], [], some 3, 24, false, 0, 3⟩),
 (24, ⟨3, true, [.slice none 0 0, .slice none 0 0, .int .i64 0], [(0, 22), (1, 22), (2, 3)], none, 56, false, 0, 5⟩),
 (26, ⟨1, false, [.int .i64 0], [], none, 8, false, 1, 1⟩)]
theorem z5b : q7v Tryz.prog k1g := ⟨⟨by kernel_rfl, by kernel_rfl, by kernel_rfl⟩, ⟨by kernel_rfl, by kernel_rfl, by kernel_rfl⟩, ⟨by kernel_rfl, by kernel_rfl, by kernel_rfl⟩, ⟨by kernel_rfl, by kernel_rfl, by kernel_rfl⟩, trivial⟩
def y0g : Cx := ⟨k1g, [], false⟩
theorem j6t : q1g Tryz.prog y0g := q1b z5b trivial
def j7w : CtF
 | [.im (.val (.int .i64 x))], [] => some (-9223372036854775807 ≤ x ∧ x ≤ 9223372036854775807, .int (x.natAbs : Int), [])
 | _, _ => none
theorem j6x : q0o Tryz.prog 128 j7w := by
 refine Sw (cx := y0g) Tryz.f128 Tryz.func128 ?_
 intro wW wO wβ G0 args os p r outs hσ hp
 have hcx := j6t
 unfold j7w at hσ
 split at hσ
 ·
  rename_i x
  cases hσ
  refine ⟨by kernel_rfl, ?_⟩
  obtain ⟨hx1, hx2⟩ := hp
  refine Sz hcx [] [] [] [] (Zs (Sz hcx [] [4] [] [] (Zj (p := (x < 0)) (fun h0 => ?_) fun h0 => ?_)))
  ·
   exact Sq hcx [] [2] [4, 0] [] [Fit (0 - x)] (ap (by omega) az) (Zr (Fr (Rv hcx (congrArg AV.int (show (0 - x) = (x.natAbs : Int) from (by omega))) [] rfl)))
  ·
   exact Zk (Ft (Sz hcx [] [2] [4, 0] [] (Zr (Rv hcx (congrArg AV.int (show x = (x.natAbs : Int) from (by omega))) [] rfl))))
 ·
  cases hσ
def z3n : Cx := ⟨k1g, [], false⟩
theorem z6c : q1g Tryz.prog z3n := q1b z5b trivial
def q7t : CtF
 | [.agg [.im (.ls (.ints C)), .im (.ls (.ints L)), .im (.val (.int .i64 B))], .im (.val (.int .i64 n))], [] => some (L.length ≤ maxLen ∧ Fit n, .int (q0m ⟨C, L, B⟩ n), [])
 | _, _ => none
theorem q8i : q0o Tryz.prog 35 q7t := by
 refine Sw (cx := z3n) Tryz.f35 Tryz.func35 ?_
 intro wW wO wβ G0 args os p r outs hσ hp
 have hcx := z6c
 unfold q7t at hσ
 split at hσ
 ·
  rename_i C L B n
  cases hσ
  refine ⟨by kernel_rfl, ?_⟩
  obtain ⟨hmx0, hn⟩ := hp
  unfold maxLen at hmx0
  refine Sz hcx [(1000, .frz)] [2] [0] [] (Zs (Sq hcx [] [30] [] [] [((!(decide (n < 0))) = true → ((!(decide (n < 0))) = true)), ((decide (n < 0)) = false → (!(decide (n < 0))) = true), ((!((decide (n < 0)) || (decide (n > 65536)))) = true → ((!((decide (n < 0)) || (decide (n > 65536)))) = true)), ((!((decide (n < 0)) || (decide (n > 65536)))) = true → ((!((decide (n < 0)) || (decide (n > 65536)))) = true)), ((!((decide (n < 0)) || (decide (n > 65536)))) = true → ((!((decide (n < 0)) || (decide (n > 65536)))) = true)), ((!((decide (n < 0)) || (decide (n > 65536)))) = true → ((!((decide (n < 0)) || (decide (n > 65536)))) = true)), ((!((decide (n < 0)) || (decide (n > 65536)))) = true → ((!((decide (n < 0)) || (decide (n > 65536)))) = true)), ((!((decide (n < 0)) || (decide (n > 65536)))) = true → ((!((decide (n < 0)) || (decide (n > 65536)))) = true)), (((decide (n < 0)) || (decide (n > 65536))) = false → (!((decide (n < 0)) || (decide (n > 65536)))) = true), ((!(((decide (n < 0)) || (decide (n > 65536))) || ((C.length : Int) != (L.length : Int)))) = true → ((!(((decide (n < 0)) || (decide (n > 65536))) || ((C.length : Int) != (L.length : Int)))) = true)), ((!(((decide (n < 0)) || (decide (n > 65536))) || ((C.length : Int) != (L.length : Int)))) = true → ((!(((decide (n < 0)) || (decide (n > 65536))) || ((C.length : Int) != (L.length : Int)))) = true)), ((((decide (n < 0)) || (decide (n > 65536))) || ((C.length : Int) != (L.length : Int))) = false → (!(((decide (n < 0)) || (decide (n > 65536))) || ((C.length : Int) != (L.length : Int)))) = true), ((!((((decide (n < 0)) || (decide (n > 65536))) || ((C.length : Int) != (L.length : Int))) || (decide (B < (-1099511627776))))) = true → ((!((((decide (n < 0)) || (decide (n > 65536))) || ((C.length : Int) != (L.length : Int))) || (decide (B < (-1099511627776))))) = true)), ((!((((decide (n < 0)) || (decide (n > 65536))) || ((C.length : Int) != (L.length : Int))) || (decide (B < (-1099511627776))))) = true → ((!((((decide (n < 0)) || (decide (n > 65536))) || ((C.length : Int) != (L.length : Int))) || (decide (B < (-1099511627776))))) = true)), (((((decide (n < 0)) || (decide (n > 65536))) || ((C.length : Int) != (L.length : Int))) || (decide (B < (-1099511627776)))) = false → (!((((decide (n < 0)) || (decide (n > 65536))) || ((C.length : Int) != (L.length : Int))) || (decide (B < (-1099511627776))))) = true)] ?_ (Zi (b := ((((decide (n < 0)) || (decide (n > 65536))) || ((C.length : Int) != (L.length : Int))) || (decide (B < (-1099511627776)))) || (decide (B > 1099511627776))) (fun h0 => ?_) fun h0 => ?_)))
  ·
   refine ap ?_ (ap (by exact q1v) (ap ?_ (ap ?_ (ap ?_ (ap ?_ (ap ?_ (ap ?_ (ap (by exact q1v) (ap ?_ (ap ?_ (ap (by exact q1v) (ap ?_ (ap ?_ (ap (by exact q1v) az)))))))))))))) <;>
    exact id
  ·
   try simp only [Bool.or_eq_true, Bool.or_eq_false_iff, Bool.and_eq_true, Bool.and_eq_false_iff, Bool.not_eq_true', Bool.not_eq_false', decide_eq_true_eq, decide_eq_false_iff_not, bne_iff_ne, bne_eq_false_iff_eq, beq_iff_eq, beq_eq_false_iff_ne] at h0
   exact Sz hcx [] [4] [30, 2, 1] [] (Zr (Fr (Rv hcx (congrArg AV.int (show 1 = q0m ⟨C, L, B⟩ n from (by rw [lc1 (by omega)]))) [] rfl)))
  ·
   try simp only [Bool.or_eq_true, Bool.or_eq_false_iff, Bool.and_eq_true, Bool.and_eq_false_iff, Bool.not_eq_true', Bool.not_eq_false', decide_eq_true_eq, decide_eq_false_iff_not, bne_iff_ne, bne_eq_false_iff_eq, beq_iff_eq, beq_eq_false_iff_ne] at h0
   refine Zk (Ft (Zs (Sz hcx [] [5] [30] [] (Zb (Lp (X := Nat) (fun x0 => x0 ≤ L.length ∧ k0u C L n x0) (fun x0 => ([(1, .int n), (2, .pto [.ls (.ints C), .ls (.ints L), .int B]), (5, .int (x0 : Int))], [])) (fun x0 => L.length - x0) (0) ?_ (Ex 5 (congrArg AV.int (show 0 = (0 : Int) from (by first | rfl | omega | (simp; done)))) Eb) Hb fun k hI => ?_)))))
   ·
    show 0 ≤ L.length ∧ k0u C L n 0
    exact ⟨Nat.zero_le _, fun j hj => by omega⟩
   ·
    try dsimp only at hI
    obtain ⟨hk, hok⟩ := hI
    have hCL : C.length = L.length := by omega
    refine Zs (Sz hcx [] [35] [] [] (Zj (p := ((k : Int) < (L.length : Int))) (fun h1 => ?_) fun h1 => ?_))
    ·
     refine Zk (Ft (Zs (Zb (Sq hcx [] [78] [35] [] [((0 : Int) ≤ (k : Int) ∧ (k : Int) < (C.length : Int)), ((!(decide ((C.getD k 0) < (-1099511627776)))) = true → ((!(decide ((C.getD k 0) < (-1099511627776)))) = true)), ((!(decide ((C.getD k 0) < (-1099511627776)))) = true → ((!(decide ((C.getD k 0) < (-1099511627776)))) = true)), ((!(decide ((C.getD k 0) < (-1099511627776)))) = true → ((!(decide ((C.getD k 0) < (-1099511627776)))) = true)), ((!(decide ((C.getD k 0) < (-1099511627776)))) = true → ((0 : Int) ≤ (k : Int) ∧ (k : Int) < (C.length : Int))), ((!(decide ((C.getD k 0) < (-1099511627776)))) = true → ((!(decide ((C.getD k 0) < (-1099511627776)))) = true)), ((!(decide ((C.getD k 0) < (-1099511627776)))) = true → ((!(decide ((C.getD k 0) < (-1099511627776)))) = true)), ((decide ((C.getD k 0) < (-1099511627776))) = false → (!(decide ((C.getD k 0) < (-1099511627776)))) = true), ((!((decide ((C.getD k 0) < (-1099511627776))) || (decide ((C.getD k 0) > 1099511627776)))) = true → ((!((decide ((C.getD k 0) < (-1099511627776))) || (decide ((C.getD k 0) > 1099511627776)))) = true)), ((!((decide ((C.getD k 0) < (-1099511627776))) || (decide ((C.getD k 0) > 1099511627776)))) = true → ((!((decide ((C.getD k 0) < (-1099511627776))) || (decide ((C.getD k 0) > 1099511627776)))) = true)), ((!((decide ((C.getD k 0) < (-1099511627776))) || (decide ((C.getD k 0) > 1099511627776)))) = true → ((!((decide ((C.getD k 0) < (-1099511627776))) || (decide ((C.getD k 0) > 1099511627776)))) = true)), ((!((decide ((C.getD k 0) < (-1099511627776))) || (decide ((C.getD k 0) > 1099511627776)))) = true → ((0 : Int) ≤ (k : Int) ∧ (k : Int) < (L.length : Int))), ((!((decide ((C.getD k 0) < (-1099511627776))) || (decide ((C.getD k 0) > 1099511627776)))) = true → ((!((decide ((C.getD k 0) < (-1099511627776))) || (decide ((C.getD k 0) > 1099511627776)))) = true)), ((!((decide ((C.getD k 0) < (-1099511627776))) || (decide ((C.getD k 0) > 1099511627776)))) = true → ((!((decide ((C.getD k 0) < (-1099511627776))) || (decide ((C.getD k 0) > 1099511627776)))) = true)), (((decide ((C.getD k 0) < (-1099511627776))) || (decide ((C.getD k 0) > 1099511627776))) = false → (!((decide ((C.getD k 0) < (-1099511627776))) || (decide ((C.getD k 0) > 1099511627776)))) = true), ((!(((decide ((C.getD k 0) < (-1099511627776))) || (decide ((C.getD k 0) > 1099511627776))) || ((L.getD k 0) == 0))) = true → ((!(((decide ((C.getD k 0) < (-1099511627776))) || (decide ((C.getD k 0) > 1099511627776))) || ((L.getD k 0) == 0))) = true)), ((!(((decide ((C.getD k 0) < (-1099511627776))) || (decide ((C.getD k 0) > 1099511627776))) || ((L.getD k 0) == 0))) = true → ((!(((decide ((C.getD k 0) < (-1099511627776))) || (decide ((C.getD k 0) > 1099511627776))) || ((L.getD k 0) == 0))) = true)), ((!(((decide ((C.getD k 0) < (-1099511627776))) || (decide ((C.getD k 0) > 1099511627776))) || ((L.getD k 0) == 0))) = true → ((!(((decide ((C.getD k 0) < (-1099511627776))) || (decide ((C.getD k 0) > 1099511627776))) || ((L.getD k 0) == 0))) = true)), ((!(((decide ((C.getD k 0) < (-1099511627776))) || (decide ((C.getD k 0) > 1099511627776))) || ((L.getD k 0) == 0))) = true → ((0 : Int) ≤ (k : Int) ∧ (k : Int) < (L.length : Int))), ((!(((decide ((C.getD k 0) < (-1099511627776))) || (decide ((C.getD k 0) > 1099511627776))) || ((L.getD k 0) == 0))) = true → ((!(((decide ((C.getD k 0) < (-1099511627776))) || (decide ((C.getD k 0) > 1099511627776))) || ((L.getD k 0) == 0))) = true)), ((!(((decide ((C.getD k 0) < (-1099511627776))) || (decide ((C.getD k 0) > 1099511627776))) || ((L.getD k 0) == 0))) = true → ((!(((decide ((C.getD k 0) < (-1099511627776))) || (decide ((C.getD k 0) > 1099511627776))) || ((L.getD k 0) == 0))) = true)), ((!(((decide ((C.getD k 0) < (-1099511627776))) || (decide ((C.getD k 0) > 1099511627776))) || ((L.getD k 0) == 0))) = true → Fit (0 - n)), ((!(((decide ((C.getD k 0) < (-1099511627776))) || (decide ((C.getD k 0) > 1099511627776))) || ((L.getD k 0) == 0))) = true → ((!(((decide ((C.getD k 0) < (-1099511627776))) || (decide ((C.getD k 0) > 1099511627776))) || ((L.getD k 0) == 0))) = true)), ((!(((decide ((C.getD k 0) < (-1099511627776))) || (decide ((C.getD k 0) > 1099511627776))) || ((L.getD k 0) == 0))) = true → ((!(((decide ((C.getD k 0) < (-1099511627776))) || (decide ((C.getD k 0) > 1099511627776))) || ((L.getD k 0) == 0))) = true)), ((((decide ((C.getD k 0) < (-1099511627776))) || (decide ((C.getD k 0) > 1099511627776))) || ((L.getD k 0) == 0)) = false → (!(((decide ((C.getD k 0) < (-1099511627776))) || (decide ((C.getD k 0) > 1099511627776))) || ((L.getD k 0) == 0))) = true), ((!((((decide ((C.getD k 0) < (-1099511627776))) || (decide ((C.getD k 0) > 1099511627776))) || ((L.getD k 0) == 0)) || (decide ((L.getD k 0) < (0 - n))))) = true → ((!((((decide ((C.getD k 0) < (-1099511627776))) || (decide ((C.getD k 0) > 1099511627776))) || ((L.getD k 0) == 0)) || (decide ((L.getD k 0) < (0 - n))))) = true)), ((!((((decide ((C.getD k 0) < (-1099511627776))) || (decide ((C.getD k 0) > 1099511627776))) || ((L.getD k 0) == 0)) || (decide ((L.getD k 0) < (0 - n))))) = true → ((!((((decide ((C.getD k 0) < (-1099511627776))) || (decide ((C.getD k 0) > 1099511627776))) || ((L.getD k 0) == 0)) || (decide ((L.getD k 0) < (0 - n))))) = true)), ((!((((decide ((C.getD k 0) < (-1099511627776))) || (decide ((C.getD k 0) > 1099511627776))) || ((L.getD k 0) == 0)) || (decide ((L.getD k 0) < (0 - n))))) = true → ((!((((decide ((C.getD k 0) < (-1099511627776))) || (decide ((C.getD k 0) > 1099511627776))) || ((L.getD k 0) == 0)) || (decide ((L.getD k 0) < (0 - n))))) = true)), ((!((((decide ((C.getD k 0) < (-1099511627776))) || (decide ((C.getD k 0) > 1099511627776))) || ((L.getD k 0) == 0)) || (decide ((L.getD k 0) < (0 - n))))) = true → ((0 : Int) ≤ (k : Int) ∧ (k : Int) < (L.length : Int))), ((!((((decide ((C.getD k 0) < (-1099511627776))) || (decide ((C.getD k 0) > 1099511627776))) || ((L.getD k 0) == 0)) || (decide ((L.getD k 0) < (0 - n))))) = true → ((!((((decide ((C.getD k 0) < (-1099511627776))) || (decide ((C.getD k 0) > 1099511627776))) || ((L.getD k 0) == 0)) || (decide ((L.getD k 0) < (0 - n))))) = true)), ((!((((decide ((C.getD k 0) < (-1099511627776))) || (decide ((C.getD k 0) > 1099511627776))) || ((L.getD k 0) == 0)) || (decide ((L.getD k 0) < (0 - n))))) = true → ((!((((decide ((C.getD k 0) < (-1099511627776))) || (decide ((C.getD k 0) > 1099511627776))) || ((L.getD k 0) == 0)) || (decide ((L.getD k 0) < (0 - n))))) = true)), ((!((((decide ((C.getD k 0) < (-1099511627776))) || (decide ((C.getD k 0) > 1099511627776))) || ((L.getD k 0) == 0)) || (decide ((L.getD k 0) < (0 - n))))) = true → ((!((((decide ((C.getD k 0) < (-1099511627776))) || (decide ((C.getD k 0) > 1099511627776))) || ((L.getD k 0) == 0)) || (decide ((L.getD k 0) < (0 - n))))) = true)), (((((decide ((C.getD k 0) < (-1099511627776))) || (decide ((C.getD k 0) > 1099511627776))) || ((L.getD k 0) == 0)) || (decide ((L.getD k 0) < (0 - n)))) = false → (!((((decide ((C.getD k 0) < (-1099511627776))) || (decide ((C.getD k 0) > 1099511627776))) || ((L.getD k 0) == 0)) || (decide ((L.getD k 0) < (0 - n))))) = true)] ?_ (Zi (b := ((((decide ((C.getD k 0) < (-1099511627776))) || (decide ((C.getD k 0) > 1099511627776))) || ((L.getD k 0) == 0)) || (decide ((L.getD k 0) < (0 - n)))) || (decide ((L.getD k 0) > n))) (fun h2 => ?_) fun h2 => ?_)))))
     ·
      refine ap (by omega) (ap ?_ (ap ?_ (ap ?_ (ap ?_ (ap ?_ (ap ?_ (ap (by exact q1v) (ap ?_ (ap ?_ (ap ?_ (ap ?_ (ap ?_ (ap ?_ (ap (by exact q1v) (ap ?_ (ap ?_ (ap ?_ (ap ?_ (ap ?_ (ap ?_ (ap ?_ (ap ?_ (ap ?_ (ap (by exact q1v) (ap ?_ (ap ?_ (ap ?_ (ap ?_ (ap ?_ (ap ?_ (ap ?_ (ap (by exact q1v) az)))))))))))))))))))))))))))))))) <;>
       first | omega | exact id
     ·
      try simp only [Bool.or_eq_true, Bool.or_eq_false_iff, Bool.and_eq_true, Bool.and_eq_false_iff, Bool.not_eq_true', Bool.not_eq_false', decide_eq_true_eq, decide_eq_false_iff_not, bne_iff_ne, bne_eq_false_iff_eq, beq_iff_eq, beq_eq_false_iff_ne] at h2
      exact Sz hcx [] [4] [78, 1, 2, 5] [] (Zr (Fk (Fr (Fr (Fk (Fr (Rv hcx (congrArg AV.int (show 1 = q0m ⟨C, L, B⟩ n from (by rw [lc2 (by omega) (k := k) (by omega) (by omega)]))) [] rfl)))))))
     ·
      try simp only [Bool.or_eq_true, Bool.or_eq_false_iff, Bool.and_eq_true, Bool.and_eq_false_iff, Bool.not_eq_true', Bool.not_eq_false', decide_eq_true_eq, decide_eq_false_iff_not, bne_iff_ne, bne_eq_false_iff_eq, beq_iff_eq, beq_eq_false_iff_ne] at h2
      refine Zk (Fb (Ft (Tq hcx [] [5] [78] [] [Fit ((k : Int) + 1)] (ap (by omega) az) (Lr (k + 1) ?_ ?_ (Ex 5 (congrArg AV.int (show ((k : Int) + 1) = ((k + 1) : Int) from (by first | rfl | omega | (simp; done)))) Eb) Hb))))
      ·
       show (k + 1) ≤ L.length ∧ k0u C L n (k + 1)
       exact ⟨by omega, hok.succ (by omega)⟩
      ·
       show L.length - (k + 1) < L.length - k
       omega
    ·
     refine Ze (Fe (Fe (Fs (Ft (Zs (Sz hcx [] [82] [35, 1, 2, 5] [] (Zj (p := ((L.length : Int) > 4096)) (fun h3 => ?_) fun h3 => ?_)))))))
     ·
      exact Sz hcx [] [4] [82] [] (Zr (Fr (Rv hcx (congrArg AV.int (show 2 = q0m ⟨C, L, B⟩ n from (by rw [lc3 (by omega) (by omega) (by omega) (by omega) (by rw [show L.length = k by omega]; exact hok), if_pos (by omega)]))) [] rfl)))
     ·
      exact Zk (Ft (Sz hcx [] [4] [82] [] (Zr (Rv hcx (congrArg AV.int (show 0 = q0m ⟨C, L, B⟩ n from (by rw [lc3 (by omega) (by omega) (by omega) (by omega) (by rw [show L.length = k by omega]; exact hok), if_neg (by omega)]))) [] rfl))))
 ·
  cases hσ
def z8f : Cx := ⟨k1g, [], false⟩
theorem j0k : q1g Tryz.prog z8f := q1b z5b trivial
def z4z : CtF
 | [.agg [.im (.ls (.ints C)), .im (.ls (.ints L)), .im (.val (.int .i64 B))], .im (.val (.int .i64 x))], [] => some (q0m ⟨C, L, B⟩ 65536 = 0 ∧ -9223372036854775807 ≤ x ∧ x ≤ 9223372036854775807, .tup [.int (cf ⟨C, L, B⟩ x), .int (cf ⟨C, L, B⟩ (-x))], [])
 | _, _ => none
theorem z9k : q0o Tryz.prog 87 z4z := by
 refine Sw (cx := z8f) Tryz.f87 Tryz.func87 ?_
 intro wW wO wβ G0 args os p r outs hσ hp
 have hcx := j0k
 unfold z4z at hσ
 split at hσ
 ·
  rename_i C L B x
  cases hσ
  refine ⟨by kernel_rfl, ?_⟩
  obtain ⟨hc, hx1, hx2⟩ := hp
  obtain ⟨_, _, hl, _, _, _, h4⟩ := id (q1d hc)
  replace hl : C.length = L.length := hl
  replace h4 : L.length ≤ 4096 := h4
  have hneg : 0 - x = -x := by omega
  have bd := y7v hc
  refine Sz hcx [(1000, .frz)] [2] [0] [] (Sz hcx [] [6, 7] [] [] (Zs (Sz hcx [] [8] [] [] (Zb (Lp (X := Nat) (fun x0 => x0 ≤ L.length) (fun x0 => ([(1, .int x), (2, .pto [.ls (.ints C), .ls (.ints L), .int B]), (6, .int (cfK C L x x0)), (7, .int (cfK C L (-x) x0)), (8, .int (x0 : Int))], [])) (fun x0 => L.length - x0) (0) ?_ (Ex 6 (congrArg AV.int (show 0 = cfK C L x 0 from (by first | rfl | omega | (simp; done)))) (Ex 7 (congrArg AV.int (show 0 = cfK C L (-x) 0 from (by first | rfl | omega | (simp; done)))) (Ex 8 (congrArg AV.int (show 0 = (0 : Int) from (by first | rfl | omega | (simp; done)))) Eb))) Hb fun k hI => ?_)))))
  ·
   show 0 ≤ L.length
   omega
  ·
   replace hI : k ≤ L.length := hI
   have b1 := bd x
   have b2 := bd (-x)
   have b3 := b1 k
   have b4 := b2 k
   have b5 := b1 (k + 1)
   have b6 := b2 (k + 1)
   refine Zs (Sz hcx [] [13] [] [] (Zj (p := ((k : Int) < (L.length : Int))) (fun h0 => ?_) fun h0 => ?_))
   ·
    refine Zk (Ft (Zs (Zb (Zs (Sq hcx [] [22] [13] [] [((0 : Int) ≤ (k : Int) ∧ (k : Int) < (L.length : Int))] (ap (by omega) az) (Zi (b := (L.getD k 0) == x) (fun h1 => ?_) fun h1 => ?_))))))
    ·
     replace h1 := eq_of_beq h1
     refine Tq hcx [] [6] [22] [] [((0 : Int) ≤ (k : Int) ∧ (k : Int) < (C.length : Int)), Fit (cfK C L x k + (C.getD k 0))] ?_ (Ft (Sq hcx [] [37] [] [] [((0 : Int) ≤ (k : Int) ∧ (k : Int) < (L.length : Int)), Fit (0 - x)] (ap (by omega) (ap (by omega) az)) (Zi (b := (L.getD k 0) == (0 - x)) (fun h2 => ?_) fun h2 => ?_)))
     ·
      refine ap (by omega) (ap ?_ az)
      rw [← q3r hl (by omega) h1]; have := b5 (by omega); omega
     ·
      replace h2 := eq_of_beq h2
      refine Tq hcx [] [7] [37] [] [((0 : Int) ≤ (k : Int) ∧ (k : Int) < (C.length : Int)), Fit (cfK C L (-x) k + (C.getD k 0))] ?_ (Fb (Ft (Tq hcx [] [8] [] [] [Fit ((k : Int) + 1)] (ap (by omega) az) (Lr (k + 1) ?_ ?_ (Ex 6 (congrArg AV.int (show (cfK C L x k + (C.getD k 0)) = cfK C L x (k + 1) from (by first | exact (q3r hl (by omega) (by omega)).symm | exact (q9u hl (by omega) (by omega)).symm))) (Ex 7 (congrArg AV.int (show (cfK C L (-x) k + (C.getD k 0)) = cfK C L (-x) (k + 1) from (by first | exact (q3r hl (by omega) (by omega)).symm | exact (q9u hl (by omega) (by omega)).symm))) (Ex 8 (congrArg AV.int (show ((k : Int) + 1) = ((k + 1) : Int) from (by first | rfl | omega | (simp; done)))) Eb))) Hb))))
      ·
       refine ap (by omega) (ap ?_ az)
       rw [← q3r hl (by omega) (show _ = -x by omega)]; have := b6 (by omega); omega
      ·
       show (k + 1) ≤ L.length
       omega
      ·
       show L.length - (k + 1) < L.length - k
       omega
     ·
      replace h2 := neB h2
      refine Zk (Fb (Ft (Tq hcx [] [8] [37] [] [Fit ((k : Int) + 1)] (ap (by omega) az) (Lr (k + 1) ?_ ?_ (Ex 6 (congrArg AV.int (show (cfK C L x k + (C.getD k 0)) = cfK C L x (k + 1) from (by first | exact (q3r hl (by omega) (by omega)).symm | exact (q9u hl (by omega) (by omega)).symm))) (Ex 7 (congrArg AV.int (show cfK C L (-x) k = cfK C L (-x) (k + 1) from (by first | exact (q3r hl (by omega) (by omega)).symm | exact (q9u hl (by omega) (by omega)).symm))) (Ex 8 (congrArg AV.int (show ((k : Int) + 1) = ((k + 1) : Int) from (by first | rfl | omega | (simp; done)))) Eb))) Hb))))
      ·
       show (k + 1) ≤ L.length
       omega
      ·
       show L.length - (k + 1) < L.length - k
       omega
    ·
     replace h1 := neB h1
     refine Zk (Ft (Sq hcx [] [37] [22] [] [((0 : Int) ≤ (k : Int) ∧ (k : Int) < (L.length : Int)), Fit (0 - x)] (ap (by omega) (ap (by omega) az)) (Zi (b := (L.getD k 0) == (0 - x)) (fun h3 => ?_) fun h3 => ?_)))
     ·
      replace h3 := eq_of_beq h3
      refine Tq hcx [] [7] [37] [] [((0 : Int) ≤ (k : Int) ∧ (k : Int) < (C.length : Int)), Fit (cfK C L (-x) k + (C.getD k 0))] ?_ (Fb (Ft (Tq hcx [] [8] [] [] [Fit ((k : Int) + 1)] (ap (by omega) az) (Lr (k + 1) ?_ ?_ (Ex 6 (congrArg AV.int (show cfK C L x k = cfK C L x (k + 1) from (by first | exact (q3r hl (by omega) (by omega)).symm | exact (q9u hl (by omega) (by omega)).symm))) (Ex 7 (congrArg AV.int (show (cfK C L (-x) k + (C.getD k 0)) = cfK C L (-x) (k + 1) from (by first | exact (q3r hl (by omega) (by omega)).symm | exact (q9u hl (by omega) (by omega)).symm))) (Ex 8 (congrArg AV.int (show ((k : Int) + 1) = ((k + 1) : Int) from (by first | rfl | omega | (simp; done)))) Eb))) Hb))))
      ·
       refine ap (by omega) (ap ?_ az)
       rw [← q3r hl (by omega) (show _ = -x by omega)]; have := b6 (by omega); omega
      ·
       show (k + 1) ≤ L.length
       omega
      ·
       show L.length - (k + 1) < L.length - k
       omega
     ·
      replace h3 := neB h3
      refine Zk (Fb (Ft (Tq hcx [] [8] [37] [] [Fit ((k : Int) + 1)] (ap (by omega) az) (Lr (k + 1) ?_ ?_ (Ex 6 (congrArg AV.int (show cfK C L x k = cfK C L x (k + 1) from (by first | exact (q3r hl (by omega) (by omega)).symm | exact (q9u hl (by omega) (by omega)).symm))) (Ex 7 (congrArg AV.int (show cfK C L (-x) k = cfK C L (-x) (k + 1) from (by first | exact (q3r hl (by omega) (by omega)).symm | exact (q9u hl (by omega) (by omega)).symm))) (Ex 8 (congrArg AV.int (show ((k : Int) + 1) = ((k + 1) : Int) from (by first | rfl | omega | (simp; done)))) Eb))) Hb))))
      ·
       show (k + 1) ≤ L.length
       omega
      ·
       show L.length - (k + 1) < L.length - k
       omega
   ·
    exact Ze (Fe (Fe (Fs (Ft (Sz hcx [] [4, 5] [13, 1, 2, 6, 7, 8] [] (Zr (Rv hcx (congrArg AV.tup (q0c (congrArg AV.int (show cfK C L x k = cf ⟨C, L, B⟩ x from (by exact j6j hl (by omega)))) (q0c (congrArg AV.int (show cfK C L (-x) k = cf ⟨C, L, B⟩ (-x) from (by exact j6j hl (by omega)))) rfl))) [] rfl)))))))
 ·
  cases hσ
def z8n : Cx := ⟨k1g, [(128, j7w)], false⟩
theorem j0f : q1g Tryz.prog z8n := q1b z5b ⟨j6x, trivial⟩
def z5o : CtF
 | [.agg [.im (.ls (.ints C)), .im (.ls (.ints L)), .im (.val (.int .i64 B))]], [] => some (L.length ≤ 4096 ∧ ∀ x ∈ L, -9223372036854775807 ≤ x ∧ x ≤ 9223372036854775807, .ints (q0a L), [])
 | _, _ => none
theorem j1z : q0o Tryz.prog 86 z5o := by
 refine Sw (cx := z8n) Tryz.f86 Tryz.func86 ?_
 intro wW wO wβ G0 args os p r outs hσ hp
 have hcx := j0f
 unfold z5o at hσ
 split at hσ
 ·
  rename_i C L B
  cases hσ
  refine ⟨by kernel_rfl, ?_⟩
  obtain ⟨h4, hx⟩ := hp
  refine Sz hcx [(1000, .frz)] [1] [0] [] (Sz hcx [] [3] [] [] (Zs (Sz hcx [] [4] [] [] (Zb (Zo 3 (.ints []) (Lp (X := Nat) (fun x0 => x0 ≤ L.length) (fun x0 => ([(1, .pto [.ls (.ints C), .ls (.ints L), .int B]), (3, .ints (q0a (L.take x0))), (4, .int (x0 : Int))], [])) (fun x0 => L.length - x0) (0) ?_ (Ex 3 (congrArg AV.ints (show [] = q0a (L.take 0) from (by first | rfl | omega | (simp; done)))) (Ex 4 (congrArg AV.int (show 0 = (0 : Int) from (by first | rfl | omega | (simp; done)))) Eb)) Hb fun k hI => ?_))))))
  ·
   show 0 ≤ L.length
   omega
  ·
   replace hI : k ≤ L.length := hI
   have hvl := z6h L k
   refine Zs (Sz hcx [] [12] [] [] (Zj (p := ((k : Int) < (L.length : Int))) (fun h0 => ?_) fun h0 => ?_))
   ·
    refine Zk (Ft (Zs (Zb (Sq hcx [] [5] [12] [] [((0 : Int) ≤ (k : Int) ∧ (k : Int) < (L.length : Int)), (-9223372036854775807 ≤ (L.getD k 0) ∧ (L.getD k 0) ≤ 9223372036854775807)] ?_ (Sz hcx [] [6] [] [] (Zs (Zb (Lp (X := Nat) (fun x0 => x0 ≤ (q0a (L.take k)).length ∧ ∀ j, j < x0 → (q0a (L.take k)).getD j 0 < ((L.getD k 0).natAbs : Int)) (fun x0 => ([(1, .pto [.ls (.ints C), .ls (.ints L), .int B]), (3, .ints (q0a (L.take k))), (4, .int (k : Int)), (5, .int ((L.getD k 0).natAbs : Int)), (6, .int (x0 : Int))], [])) (fun x0 => (q0a (L.take k)).length - x0) (0) ?_ (Ex 6 (congrArg AV.int (show 0 = (0 : Int) from (by first | rfl | omega | (simp; done)))) Eb) Hb fun i hI => ?_))))))))
    ·
     refine ap ?_ (ap ?_ az) <;>
      first | exact hx _ (q5m (by omega)) | omega
    ·
     exact ⟨Nat.zero_le _, fun j hj => by omega⟩
    ·
     try dsimp only at hI
     obtain ⟨hi, hlt⟩ := hI
     refine Zs (Sq hcx [] [32] [] [] [((decide ((i : Int) < ((q0a (L.take k)).length : Int))) = true → ((decide ((i : Int) < ((q0a (L.take k)).length : Int))) = true)), ((decide ((i : Int) < ((q0a (L.take k)).length : Int))) = true → ((decide ((i : Int) < ((q0a (L.take k)).length : Int))) = true)), ((decide ((i : Int) < ((q0a (L.take k)).length : Int))) = true → ((0 : Int) ≤ (i : Int) ∧ (i : Int) < ((q0a (L.take k)).length : Int))), ((decide ((i : Int) < ((q0a (L.take k)).length : Int))) = true → ((decide ((i : Int) < ((q0a (L.take k)).length : Int))) = true)), ((decide ((i : Int) < ((q0a (L.take k)).length : Int))) = true → ((decide ((i : Int) < ((q0a (L.take k)).length : Int))) = true)), ((decide ((i : Int) < ((q0a (L.take k)).length : Int))) = true → ((decide ((i : Int) < ((q0a (L.take k)).length : Int))) = true)), ((decide ((i : Int) < ((q0a (L.take k)).length : Int))) = true → (decide ((i : Int) < ((q0a (L.take k)).length : Int))) = true)] ?_ (Zi (b := (decide ((i : Int) < ((q0a (L.take k)).length : Int))) && (decide (((q0a (L.take k)).getD i 0) < ((L.getD k 0).natAbs : Int)))) (fun h1 => ?_) fun h1 => ?_))
     ·
      refine ap ?_ (ap ?_ (ap ?_ (ap ?_ (ap ?_ (ap ?_ (ap (by exact id) az)))))) <;>
       first | exact id | (intro h; simp at h; omega)
     ·
      simp only [Bool.and_eq_true, decide_eq_true_eq] at h1
      refine Zk (Ft (Zb (Tq hcx [] [6] [32] [] [Fit ((i : Int) + 1)] (ap (by omega) az) (Fb (Lr (i + 1) ?_ ?_ (Ex 6 (congrArg AV.int (show ((i : Int) + 1) = ((i + 1) : Int) from (by first | rfl | omega | (simp; done)))) Eb) Hb)))))
      ·
       exact ⟨by omega, x3u hlt (by omega)⟩
      ·
       try dsimp only
       omega
     ·
      simp only [Bool.and_eq_false_iff, decide_eq_false_iff_not] at h1
      have hcn := h1
      refine Ze (Fe (Fe (Fs (Ft (Zs (Sq hcx [] [46] [32] [] [((decide ((i : Int) < ((q0a (L.take k)).length : Int))) = true → ((decide ((i : Int) < ((q0a (L.take k)).length : Int))) = true)), ((decide ((i : Int) < ((q0a (L.take k)).length : Int))) = true → ((decide ((i : Int) < ((q0a (L.take k)).length : Int))) = true)), ((decide ((i : Int) < ((q0a (L.take k)).length : Int))) = true → ((0 : Int) ≤ (i : Int) ∧ (i : Int) < ((q0a (L.take k)).length : Int))), ((decide ((i : Int) < ((q0a (L.take k)).length : Int))) = true → ((decide ((i : Int) < ((q0a (L.take k)).length : Int))) = true)), ((decide ((i : Int) < ((q0a (L.take k)).length : Int))) = true → ((decide ((i : Int) < ((q0a (L.take k)).length : Int))) = true)), ((decide ((i : Int) < ((q0a (L.take k)).length : Int))) = true → ((decide ((i : Int) < ((q0a (L.take k)).length : Int))) = true)), ((decide ((i : Int) < ((q0a (L.take k)).length : Int))) = true → (decide ((i : Int) < ((q0a (L.take k)).length : Int))) = true)] ?_ (Zi (b := (decide ((i : Int) < ((q0a (L.take k)).length : Int))) && (((q0a (L.take k)).getD i 0) == ((L.getD k 0).natAbs : Int))) (fun h2 => ?_) fun h2 => ?_)))))))
      ·
       refine ap ?_ (ap ?_ (ap ?_ (ap ?_ (ap ?_ (ap ?_ (ap (by exact id) az)))))) <;>
        first | exact id | (intro h; simp at h; omega)
      ·
       simp only [Bool.and_eq_true, decide_eq_true_eq, beq_iff_eq] at h2
       refine Ze (Fe (Fs (Ft (Tq hcx [] [4] [46, 5, 6] [] [Fit ((k : Int) + 1)] (ap (by omega) az) (Lr (k + 1) ?_ ?_ (Ex 3 (congrArg AV.ints (show q0a (L.take k) = q0a (L.take (k + 1)) from (by first | (rw [q7h (by omega)]; exact (j5p (by omega) hlt (by omega)).symm) | (rw [q7h (by omega)]; exact (y2a hi hlt hcn hcn2).symm)))) (Ex 4 (congrArg AV.int (show ((k : Int) + 1) = ((k + 1) : Int) from (by first | rfl | omega | (simp; done)))) Eb)) Hb)))))
       ·
        show (k + 1) ≤ L.length
        omega
       ·
        show L.length - (k + 1) < L.length - k
        omega
      ·
       simp only [Bool.and_eq_false_iff, decide_eq_false_iff_not, beq_eq_false_iff_ne] at h2
       have hcn2 := h2
       refine Zk (Ft (Sz hcx [] [7] [46] [] (Sq hcx [(1004, .to 251)] [7] [] [] [((0 : Int) ≤ (i : Int) ∧ (i : Int) ≤ ((q0a (L.take k)).length : Int)), ((((q0a (L.take k)).take i).drop 0).length * 8 ≤ 140737488355328)] (ap (by omega) (ap (by simp; omega) az)) (Sq hcx [(1003, .to 251)] [7] [5] [251] [(((((q0a (L.take k)).take i).drop 0).length + [((L.getD k 0).natAbs : Int)].length) * 8 ≤ 140737488355328)] (ap (by simp; omega) az) (Sq hcx [(1004, .to 251)] [7] [3, 6] [251] [((0 : Int) ≤ (i : Int) ∧ (i : Int) ≤ ((q0a (L.take k)).length : Int)), ((((((q0a (L.take k)).take i).drop 0) ++ [((L.getD k 0).natAbs : Int)]).length + (((q0a (L.take k)).take ((q0a (L.take k)).length)).drop i).length) * 8 ≤ 140737488355328)] (ap (by omega) (ap (by simp; omega) az)) (Tz hcx [] [3] [7] [] (Fb (Ft (Tq hcx [] [4] [] [] [Fit ((k : Int) + 1)] (ap (by omega) az) (Fn [(251, .frz)] [1, 3, 4] (Lr (k + 1) ?_ ?_ (Ex 3 (congrArg AV.ints (show (((((q0a (L.take k)).take i).drop 0) ++ [((L.getD k 0).natAbs : Int)]) ++ (((q0a (L.take k)).take ((q0a (L.take k)).length)).drop i)) = q0a (L.take (k + 1)) from (by first | (rw [q7h (by omega)]; exact (j5p (by omega) hlt (by omega)).symm) | (rw [q7h (by omega)]; exact (y2a hi hlt hcn hcn2).symm)))) (Ex 4 (congrArg AV.int (show ((k : Int) + 1) = ((k + 1) : Int) from (by first | rfl | omega | (simp; done)))) Eb)) Hb)))))))))))
       ·
        show (k + 1) ≤ L.length
        omega
       ·
        show L.length - (k + 1) < L.length - k
        omega
   ·
    exact Ze (Fe (Fe (Fs (Ft (Sz hcx [] [2] [12, 1, 3, 4] [] (Zr (Rv hcx (congrArg AV.ints (show q0a (L.take k) = q0a L from (by rw [List.take_of_length_le (by omega)]))) [] rfl)))))))
 ·
  cases hσ
def z7a : Cx := ⟨k1g, [(35, (q2g [.agg [.ld (.ints []), .ld (.ints []), .id], .id] q7t)), (87, (q2g [.agg [.ld (.ints []), .ld (.ints []), .id], .id] z4z)), (86, (q2g [.agg [.ld (.ints []), .ld (.ints []), .id]] z5o))], false⟩
theorem z9g : q1g Tryz.prog z7a := q1b z5b ⟨(q8i.coe [.agg [.ld (.ints []), .ld (.ints []), .id], .id] rfl), (z9k.coe [.agg [.ld (.ints []), .ld (.ints []), .id], .id] rfl), (j1z.coe [.agg [.ld (.ints []), .ld (.ints []), .id]] rfl), trivial⟩
def z4x : CtF
 | [.agg [.im (.ls (.ints C)), .im (.ls (.ints L)), .im (.val (.int .i64 B))]], [] => some (C.length ≤ maxLen ∧ L.length ≤ maxLen, .agg [.row 0, .row 1, .int ((q0b ⟨C, L, B⟩).B)], [some (.row 3 (.ints ((q0b ⟨C, L, B⟩).C))), some (.row 3 (.ints ((q0b ⟨C, L, B⟩).L)))])
 | _, _ => none
theorem j1k : q0o Tryz.prog 37 z4x := by
 refine Sw (cx := z7a) Tryz.f37 Tryz.func37 ?_
 intro wW wO wβ G0 args os p r outs hσ hp
 have hcx := z9g
 have hmx : Tryz.prog.follows .mixedOrders = true := by kernel_rfl
 unfold z4x at hσ
 split at hσ
 ·
  rename_i C L B
  cases hσ
  refine ⟨by kernel_rfl, ?_⟩
  obtain ⟨hm1, hm2⟩ := hp
  refine Sz hcx [(1001, .to 602), (1000, .frz)] [1, 2] [0] [] (Zs (Sq hcx [] [12] [] [] [(L.length ≤ maxLen ∧ Fit (65536 : Int))] (ap (by exact ⟨hm2, by omega⟩) az) (Zx (a := (q0m ⟨C, L, B⟩ (65536 : Int))) (b := 0) (fun h0 => ?_) fun h0 => ?_)))
  ·
   have hnc : ¬ q0m ⟨C, L, B⟩ 65536 = 0 := h0
   exact Sz hcx [(602, .to 602)] [] [12, 1] [] (Zr (Fr (Fv 602 0 700 3 (.ints []) (Fv 602 1 701 3 (.ints []) (Fn [(700, .to 0), (701, .to 1), (602, .to 990)] [2] (Rv hcx (congrArg AV.agg (q0c rfl (q0c rfl (q0c (congrArg AV.int (show 0 = (q0b ⟨C, L, B⟩).B from (by exact (congrArg q2j.B (j7c hnc)).symm))) rfl)))) [true, true] (q0r (congrArg some (congrArg (fun x => q0d.row 3 (.ints x)) (show [] = (q0b ⟨C, L, B⟩).C from (by exact (congrArg q2j.C (j7c hnc)).symm)))) (q0r (congrArg some (congrArg (fun x => q0d.row 3 (.ints x)) (show [] = (q0b ⟨C, L, B⟩).L from (by exact (congrArg q2j.L (j7c hnc)).symm)))) rfl))))))))
  ·
   have hc : q0m ⟨C, L, B⟩ 65536 = 0 := by first | exact h0 | exact h0.1 | omega
   obtain ⟨_, _, hl, hB, hC, hL, h4⟩ := id (q1d hc)
   replace hl : C.length = L.length := hl
   replace h4 : L.length ≤ 4096 := h4
   replace hL : ∀ x ∈ L, x ≠ 0 ∧ -65536 ≤ x ∧ x ≤ 65536 := hL
   have hvs := j8k hL
   have hvl := z0l L
   refine Zk (Ft (Sz hcx [(1003, .to 603)] [3] [12] [] (Sz hcx [] [4] [] [] (Sq hcx [] [5] [] [] [(L.length ≤ 4096 ∧ ∀ x ∈ L, -9223372036854775807 ≤ x ∧ x ≤ 9223372036854775807)] ?_ (Zs (Sz hcx [] [6] [] [] (Zb (Zv 603 0 10 3 (.ints []) (Zv 603 1 11 3 (.ints []) (Zn [(10, .to 10), (11, .to 11), (602, .to 602), (603, .to 603)] [1, 2, 3, 4, 5, 6] (Lp (X := Nat) (fun x0 => x0 ≤ (q0a L).length) (fun x0 => ([(1, .pto [.ls (.ints C), .ls (.ints L), .int B]), (2, .loc 602 0), (3, .loc 603 0), (4, .int (nA ⟨C, L, B⟩ (q0a L) x0)), (5, .ints (q0a L)), (6, .int (x0 : Int))], [(10, .row 3 (.ints (nC ⟨C, L, B⟩ (q0a L) x0))), (11, .row 3 (.ints (nL ⟨C, L, B⟩ (q0a L) x0))), (602, .box [.im (.val (.slice none 0 0)), .im (.val (.slice none 0 0)), .int 0]), (603, .box [.row 10, .row 11, .int (nB ⟨C, L, B⟩ (q0a L) x0)])])) (fun x0 => (q0a L).length - x0) (0) ?_ (Ex 4 (congrArg AV.int (show 0 = nA ⟨C, L, B⟩ (q0a L) 0 from (by simp [nA, q0p, q0v]))) (Ex 6 (congrArg AV.int (show 0 = (0 : Int) from (by first | rfl | omega | (simp; done)))) Eb)) (Hx 10 (congrArg (fun x => q0d.row 3 (.ints x)) (show [] = nC ⟨C, L, B⟩ (q0a L) 0 from (by simp [nC, q0p]))) (Hx 11 (congrArg (fun x => q0d.row 3 (.ints x)) (show [] = nL ⟨C, L, B⟩ (q0a L) 0 from (by simp [nL, q0p]))) (Hx 603 (o := .box [.row 10, .row 11, .int B]) (o' := .box [.row 10, .row 11, .int (nB ⟨C, L, B⟩ (q0a L) 0)]) (congrArg q0d.box (q0c rfl (q0c rfl (q0c (congrArg AV.int (show B = nB ⟨C, L, B⟩ (q0a L) 0 from (by simp [nB, q1o]))) rfl)))) Hb))) fun k hI => ?_)))))))))))
   ·
    refine ap ?_ az
    exact ⟨h4, fun x hx => by have := hL x hx; omega⟩
   ·
    show 0 ≤ (q0a L).length
    omega
   ·
    replace hI : k ≤ (q0a L).length := hI
    have ha1 := k2a hc ((q0a L).getD k 0)
    have ha2 := k2a hc (-((q0a L).getD k 0))
    have hb1 : -4504699138998272 ≤ nB ⟨C, L, B⟩ (q0a L) k ∧ nB ⟨C, L, B⟩ (q0a L) k ≤ 4504699138998272 := k7r hc k
    have hA1 : 0 ≤ nA ⟨C, L, B⟩ (q0a L) k ∧ nA ⟨C, L, B⟩ (q0a L) k ≤ 4503599627370496 := k7d hc k
    have hnl := k3e ⟨C, L, B⟩ (q0a L) k
    have hvp : k < (q0a L).length → -65536 ≤ (q0a L).getD k 0 ∧ (q0a L).getD k 0 ≤ 65536 := fun hk => by have := hvs _ (q5m hk); omega
    refine Zs (Sz hcx [] [22] [] [] (Zj (p := ((k : Int) < ((q0a L).length : Int))) (fun h1 => ?_) fun h1 => ?_))
    ·
     refine Zk (Ft (Zs (Zb (Sd hcx hmx [0, 0, 0, 6, 14, 31, 63, 127, 127, 255, 1023] [] [7, 8] [22] [] [((0 : Int) ≤ (k : Int) ∧ (k : Int) < ((q0a L).length : Int)), (q0m ⟨C, L, B⟩ 65536 = 0 ∧ -9223372036854775807 ≤ ((q0a L).getD k 0) ∧ ((q0a L).getD k 0) ≤ 9223372036854775807)] ?_ (Sq hcx [(603, .to 603)] [] [] [] [Fit (nB ⟨C, L, B⟩ (q0a L) k - (min (cf ⟨C, L, B⟩ ((q0a L).getD k 0)) (cf ⟨C, L, B⟩ (-((q0a L).getD k 0)))))] (ap (by omega) az) (Zs (Sz hcx [] [43] [] [] (Zj (p := (cf ⟨C, L, B⟩ ((q0a L).getD k 0) > cf ⟨C, L, B⟩ (-((q0a L).getD k 0)))) (fun h2 => ?_) fun h2 => ?_))))))))
     ·
      refine ap (by omega) (ap ?_ az)
      have hv := hvs _ (q5m (l := q0a L) (k := k) (by omega)); exact ⟨hc, by omega, by omega⟩
     ·
      refine Sq hcx [(1006, .to 10), (603, .to 603)] [] [43] [10] [Fit (cf ⟨C, L, B⟩ ((q0a L).getD k 0) - cf ⟨C, L, B⟩ (-((q0a L).getD k 0))), (((nC ⟨C, L, B⟩ (q0a L) k).length + [(cf ⟨C, L, B⟩ ((q0a L).getD k 0) - cf ⟨C, L, B⟩ (-((q0a L).getD k 0)))].length) * 8 ≤ 140737488355328)] ?_ (Td hcx hmx [0, 1, 0, 0, 12, 28, 60, 127, 255, 511] [(1007, .to 11), (603, .to 603)] [] [] [11] [((0 : Int) ≤ (k : Int) ∧ (k : Int) < ((q0a L).length : Int)), (((nL ⟨C, L, B⟩ (q0a L) k).length + [((q0a L).getD k 0)].length) * 8 ≤ 140737488355328)] ?_ (Ft (Zs (Sz hcx [] [63] [] [] (Zj (p := (cf ⟨C, L, B⟩ (-((q0a L).getD k 0)) > cf ⟨C, L, B⟩ ((q0a L).getD k 0))) (fun h3 => ?_) fun h3 => ?_)))))
      ·
       refine ap (by omega) (ap ?_ az)
       simp only [List.length_cons, List.length_nil]; omega
      ·
       refine ap (by omega) (ap ?_ az)
       simp only [List.length_cons, List.length_nil]; omega
      ·
       refine Sq hcx [(1006, .to 10), (603, .to 603)] [] [63] [10] [Fit (cf ⟨C, L, B⟩ (-((q0a L).getD k 0)) - cf ⟨C, L, B⟩ ((q0a L).getD k 0)), ((((nC ⟨C, L, B⟩ (q0a L) k) ++ [(cf ⟨C, L, B⟩ ((q0a L).getD k 0) - cf ⟨C, L, B⟩ (-((q0a L).getD k 0)))]).length + [(cf ⟨C, L, B⟩ (-((q0a L).getD k 0)) - cf ⟨C, L, B⟩ ((q0a L).getD k 0))].length) * 8 ≤ 140737488355328)] ?_ (Td hcx hmx [0, 1, 0, 0, 12, 28, 60, 124, 255, 511, 1023] [(1008, .to 11), (603, .to 603)] [] [] [11] [((0 : Int) ≤ (k : Int) ∧ (k : Int) < ((q0a L).length : Int)), Fit (0 - ((q0a L).getD k 0)), ((((nL ⟨C, L, B⟩ (q0a L) k) ++ [((q0a L).getD k 0)]).length + [(0 - ((q0a L).getD k 0))].length) * 8 ≤ 140737488355328)] ?_ (Ft (Tq hcx [] [4] [7, 8] [] [Fit (nA ⟨C, L, B⟩ (q0a L) k + (max (cf ⟨C, L, B⟩ ((q0a L).getD k 0)) (cf ⟨C, L, B⟩ (-((q0a L).getD k 0))))), Fit ((nA ⟨C, L, B⟩ (q0a L) k + (max (cf ⟨C, L, B⟩ ((q0a L).getD k 0)) (cf ⟨C, L, B⟩ (-((q0a L).getD k 0))))) - (min (cf ⟨C, L, B⟩ ((q0a L).getD k 0)) (cf ⟨C, L, B⟩ (-((q0a L).getD k 0)))))] (ap (by omega) (ap (by omega) az)) (Fb (Ft (Tq hcx [] [6] [] [] [Fit ((k : Int) + 1)] (ap (by omega) az) (Fn [(10, .to 10), (11, .to 11), (602, .to 602), (603, .to 603)] [1, 2, 3, 4, 5, 6] (Lr (k + 1) ?_ ?_ (Ex 4 (congrArg AV.int (show ((nA ⟨C, L, B⟩ (q0a L) k + (max (cf ⟨C, L, B⟩ ((q0a L).getD k 0)) (cf ⟨C, L, B⟩ (-((q0a L).getD k 0))))) - (min (cf ⟨C, L, B⟩ ((q0a L).getD k 0)) (cf ⟨C, L, B⟩ (-((q0a L).getD k 0))))) = nA ⟨C, L, B⟩ (q0a L) (k + 1) from (by exact (j1d (by omega)).symm))) (Ex 6 (congrArg AV.int (show ((k : Int) + 1) = ((k + 1) : Int) from (by first | rfl | omega | (simp; done)))) Eb)) (Hx 10 (congrArg (fun x => q0d.row 3 (.ints x)) (show (((nC ⟨C, L, B⟩ (q0a L) k) ++ [(cf ⟨C, L, B⟩ ((q0a L).getD k 0) - cf ⟨C, L, B⟩ (-((q0a L).getD k 0)))]) ++ [(cf ⟨C, L, B⟩ (-((q0a L).getD k 0)) - cf ⟨C, L, B⟩ ((q0a L).getD k 0))]) = nC ⟨C, L, B⟩ (q0a L) (k + 1) from (by first | exact (j5y (by omega) (by omega)).1.symm | exact (j3k (by omega) (by omega)).1.symm | exact (j6f (by omega) (by omega) (by omega)).1.symm | (exfalso; omega)))) (Hx 11 (congrArg (fun x => q0d.row 3 (.ints x)) (show (((nL ⟨C, L, B⟩ (q0a L) k) ++ [((q0a L).getD k 0)]) ++ [(0 - ((q0a L).getD k 0))]) = nL ⟨C, L, B⟩ (q0a L) (k + 1) from (by first | exact (j5y (by omega) (by omega)).2.symm | (rw [Int.zero_sub]; exact (j3k (by omega) (by omega)).2.symm) | exact (j6f (by omega) (by omega) (by omega)).2.symm | (exfalso; omega)))) (Hx 603 (o := .box [.row 10, .row 11, .int (nB ⟨C, L, B⟩ (q0a L) k - (min (cf ⟨C, L, B⟩ ((q0a L).getD k 0)) (cf ⟨C, L, B⟩ (-((q0a L).getD k 0)))))]) (o' := .box [.row 10, .row 11, .int (nB ⟨C, L, B⟩ (q0a L) (k + 1))]) (congrArg q0d.box (q0c rfl (q0c rfl (q0c (congrArg AV.int (show (nB ⟨C, L, B⟩ (q0a L) k - (min (cf ⟨C, L, B⟩ ((q0a L).getD k 0)) (cf ⟨C, L, B⟩ (-((q0a L).getD k 0))))) = nB ⟨C, L, B⟩ (q0a L) (k + 1) from (by exact (j0b (by omega)).symm))) rfl)))) Hb)))))))))))
       ·
        refine ap (by omega) (ap ?_ az)
        simp only [List.length_cons, List.length_nil]; omega
       ·
        refine ap (by omega) (ap (by omega) (ap ?_ az))
        simp only [List.length_cons, List.length_nil]; omega
       ·
        show (k + 1) ≤ (q0a L).length
        omega
       ·
        try dsimp only
        omega
      ·
       refine Zk (Ft (Tq hcx [] [4] [63, 7, 8] [] [Fit (nA ⟨C, L, B⟩ (q0a L) k + (max (cf ⟨C, L, B⟩ ((q0a L).getD k 0)) (cf ⟨C, L, B⟩ (-((q0a L).getD k 0))))), Fit ((nA ⟨C, L, B⟩ (q0a L) k + (max (cf ⟨C, L, B⟩ ((q0a L).getD k 0)) (cf ⟨C, L, B⟩ (-((q0a L).getD k 0))))) - (min (cf ⟨C, L, B⟩ ((q0a L).getD k 0)) (cf ⟨C, L, B⟩ (-((q0a L).getD k 0)))))] (ap (by omega) (ap (by omega) az)) (Fb (Ft (Tq hcx [] [6] [] [] [Fit ((k : Int) + 1)] (ap (by omega) az) (Fn [(10, .to 10), (11, .to 11), (602, .to 602), (603, .to 603)] [1, 2, 3, 4, 5, 6] (Lr (k + 1) ?_ ?_ (Ex 4 (congrArg AV.int (show ((nA ⟨C, L, B⟩ (q0a L) k + (max (cf ⟨C, L, B⟩ ((q0a L).getD k 0)) (cf ⟨C, L, B⟩ (-((q0a L).getD k 0))))) - (min (cf ⟨C, L, B⟩ ((q0a L).getD k 0)) (cf ⟨C, L, B⟩ (-((q0a L).getD k 0))))) = nA ⟨C, L, B⟩ (q0a L) (k + 1) from (by exact (j1d (by omega)).symm))) (Ex 6 (congrArg AV.int (show ((k : Int) + 1) = ((k + 1) : Int) from (by first | rfl | omega | (simp; done)))) Eb)) (Hx 10 (congrArg (fun x => q0d.row 3 (.ints x)) (show ((nC ⟨C, L, B⟩ (q0a L) k) ++ [(cf ⟨C, L, B⟩ ((q0a L).getD k 0) - cf ⟨C, L, B⟩ (-((q0a L).getD k 0)))]) = nC ⟨C, L, B⟩ (q0a L) (k + 1) from (by first | exact (j5y (by omega) (by omega)).1.symm | exact (j3k (by omega) (by omega)).1.symm | exact (j6f (by omega) (by omega) (by omega)).1.symm | (exfalso; omega)))) (Hx 11 (congrArg (fun x => q0d.row 3 (.ints x)) (show ((nL ⟨C, L, B⟩ (q0a L) k) ++ [((q0a L).getD k 0)]) = nL ⟨C, L, B⟩ (q0a L) (k + 1) from (by first | exact (j5y (by omega) (by omega)).2.symm | (rw [Int.zero_sub]; exact (j3k (by omega) (by omega)).2.symm) | exact (j6f (by omega) (by omega) (by omega)).2.symm | (exfalso; omega)))) (Hx 603 (o := .box [.row 10, .row 11, .int (nB ⟨C, L, B⟩ (q0a L) k - (min (cf ⟨C, L, B⟩ ((q0a L).getD k 0)) (cf ⟨C, L, B⟩ (-((q0a L).getD k 0)))))]) (o' := .box [.row 10, .row 11, .int (nB ⟨C, L, B⟩ (q0a L) (k + 1))]) (congrArg q0d.box (q0c rfl (q0c rfl (q0c (congrArg AV.int (show (nB ⟨C, L, B⟩ (q0a L) k - (min (cf ⟨C, L, B⟩ ((q0a L).getD k 0)) (cf ⟨C, L, B⟩ (-((q0a L).getD k 0))))) = nB ⟨C, L, B⟩ (q0a L) (k + 1) from (by exact (j0b (by omega)).symm))) rfl)))) Hb))))))))))
       ·
        show (k + 1) ≤ (q0a L).length
        omega
       ·
        try dsimp only
        omega
     ·
      refine Zk (Ft (Zs (Sz hcx [] [63] [43] [] (Zj (p := (cf ⟨C, L, B⟩ (-((q0a L).getD k 0)) > cf ⟨C, L, B⟩ ((q0a L).getD k 0))) (fun h4 => ?_) fun h4 => ?_))))
      ·
       refine Sq hcx [(1006, .to 10), (603, .to 603)] [] [63] [10] [Fit (cf ⟨C, L, B⟩ (-((q0a L).getD k 0)) - cf ⟨C, L, B⟩ ((q0a L).getD k 0)), (((nC ⟨C, L, B⟩ (q0a L) k).length + [(cf ⟨C, L, B⟩ (-((q0a L).getD k 0)) - cf ⟨C, L, B⟩ ((q0a L).getD k 0))].length) * 8 ≤ 140737488355328)] ?_ (Td hcx hmx [0, 1, 0, 0, 12, 28, 60, 124, 255, 511, 1023] [(1008, .to 11), (603, .to 603)] [] [] [11] [((0 : Int) ≤ (k : Int) ∧ (k : Int) < ((q0a L).length : Int)), Fit (0 - ((q0a L).getD k 0)), (((nL ⟨C, L, B⟩ (q0a L) k).length + [(0 - ((q0a L).getD k 0))].length) * 8 ≤ 140737488355328)] ?_ (Ft (Tq hcx [] [4] [7, 8] [] [Fit (nA ⟨C, L, B⟩ (q0a L) k + (max (cf ⟨C, L, B⟩ ((q0a L).getD k 0)) (cf ⟨C, L, B⟩ (-((q0a L).getD k 0))))), Fit ((nA ⟨C, L, B⟩ (q0a L) k + (max (cf ⟨C, L, B⟩ ((q0a L).getD k 0)) (cf ⟨C, L, B⟩ (-((q0a L).getD k 0))))) - (min (cf ⟨C, L, B⟩ ((q0a L).getD k 0)) (cf ⟨C, L, B⟩ (-((q0a L).getD k 0)))))] (ap (by omega) (ap (by omega) az)) (Fb (Ft (Tq hcx [] [6] [] [] [Fit ((k : Int) + 1)] (ap (by omega) az) (Fn [(10, .to 10), (11, .to 11), (602, .to 602), (603, .to 603)] [1, 2, 3, 4, 5, 6] (Lr (k + 1) ?_ ?_ (Ex 4 (congrArg AV.int (show ((nA ⟨C, L, B⟩ (q0a L) k + (max (cf ⟨C, L, B⟩ ((q0a L).getD k 0)) (cf ⟨C, L, B⟩ (-((q0a L).getD k 0))))) - (min (cf ⟨C, L, B⟩ ((q0a L).getD k 0)) (cf ⟨C, L, B⟩ (-((q0a L).getD k 0))))) = nA ⟨C, L, B⟩ (q0a L) (k + 1) from (by exact (j1d (by omega)).symm))) (Ex 6 (congrArg AV.int (show ((k : Int) + 1) = ((k + 1) : Int) from (by first | rfl | omega | (simp; done)))) Eb)) (Hx 10 (congrArg (fun x => q0d.row 3 (.ints x)) (show ((nC ⟨C, L, B⟩ (q0a L) k) ++ [(cf ⟨C, L, B⟩ (-((q0a L).getD k 0)) - cf ⟨C, L, B⟩ ((q0a L).getD k 0))]) = nC ⟨C, L, B⟩ (q0a L) (k + 1) from (by first | exact (j5y (by omega) (by omega)).1.symm | exact (j3k (by omega) (by omega)).1.symm | exact (j6f (by omega) (by omega) (by omega)).1.symm | (exfalso; omega)))) (Hx 11 (congrArg (fun x => q0d.row 3 (.ints x)) (show ((nL ⟨C, L, B⟩ (q0a L) k) ++ [(0 - ((q0a L).getD k 0))]) = nL ⟨C, L, B⟩ (q0a L) (k + 1) from (by first | exact (j5y (by omega) (by omega)).2.symm | (rw [Int.zero_sub]; exact (j3k (by omega) (by omega)).2.symm) | exact (j6f (by omega) (by omega) (by omega)).2.symm | (exfalso; omega)))) (Hx 603 (o := .box [.row 10, .row 11, .int (nB ⟨C, L, B⟩ (q0a L) k - (min (cf ⟨C, L, B⟩ ((q0a L).getD k 0)) (cf ⟨C, L, B⟩ (-((q0a L).getD k 0)))))]) (o' := .box [.row 10, .row 11, .int (nB ⟨C, L, B⟩ (q0a L) (k + 1))]) (congrArg q0d.box (q0c rfl (q0c rfl (q0c (congrArg AV.int (show (nB ⟨C, L, B⟩ (q0a L) k - (min (cf ⟨C, L, B⟩ ((q0a L).getD k 0)) (cf ⟨C, L, B⟩ (-((q0a L).getD k 0))))) = nB ⟨C, L, B⟩ (q0a L) (k + 1) from (by exact (j0b (by omega)).symm))) rfl)))) Hb)))))))))))
       ·
        refine ap (by omega) (ap ?_ az)
        simp only [List.length_cons, List.length_nil]; omega
       ·
        refine ap (by omega) (ap (by omega) (ap ?_ az))
        simp only [List.length_cons, List.length_nil]; omega
       ·
        show (k + 1) ≤ (q0a L).length
        omega
       ·
        try dsimp only
        omega
      ·
       refine Zk (Ft (Tq hcx [] [4] [63, 7, 8] [] [Fit (nA ⟨C, L, B⟩ (q0a L) k + (max (cf ⟨C, L, B⟩ ((q0a L).getD k 0)) (cf ⟨C, L, B⟩ (-((q0a L).getD k 0))))), Fit ((nA ⟨C, L, B⟩ (q0a L) k + (max (cf ⟨C, L, B⟩ ((q0a L).getD k 0)) (cf ⟨C, L, B⟩ (-((q0a L).getD k 0))))) - (min (cf ⟨C, L, B⟩ ((q0a L).getD k 0)) (cf ⟨C, L, B⟩ (-((q0a L).getD k 0)))))] (ap (by omega) (ap (by omega) az)) (Fb (Ft (Tq hcx [] [6] [] [] [Fit ((k : Int) + 1)] (ap (by omega) az) (Fn [(10, .to 10), (11, .to 11), (602, .to 602), (603, .to 603)] [1, 2, 3, 4, 5, 6] (Lr (k + 1) ?_ ?_ (Ex 4 (congrArg AV.int (show ((nA ⟨C, L, B⟩ (q0a L) k + (max (cf ⟨C, L, B⟩ ((q0a L).getD k 0)) (cf ⟨C, L, B⟩ (-((q0a L).getD k 0))))) - (min (cf ⟨C, L, B⟩ ((q0a L).getD k 0)) (cf ⟨C, L, B⟩ (-((q0a L).getD k 0))))) = nA ⟨C, L, B⟩ (q0a L) (k + 1) from (by exact (j1d (by omega)).symm))) (Ex 6 (congrArg AV.int (show ((k : Int) + 1) = ((k + 1) : Int) from (by first | rfl | omega | (simp; done)))) Eb)) (Hx 10 (congrArg (fun x => q0d.row 3 (.ints x)) (show nC ⟨C, L, B⟩ (q0a L) k = nC ⟨C, L, B⟩ (q0a L) (k + 1) from (by first | exact (j5y (by omega) (by omega)).1.symm | exact (j3k (by omega) (by omega)).1.symm | exact (j6f (by omega) (by omega) (by omega)).1.symm | (exfalso; omega)))) (Hx 11 (congrArg (fun x => q0d.row 3 (.ints x)) (show nL ⟨C, L, B⟩ (q0a L) k = nL ⟨C, L, B⟩ (q0a L) (k + 1) from (by first | exact (j5y (by omega) (by omega)).2.symm | (rw [Int.zero_sub]; exact (j3k (by omega) (by omega)).2.symm) | exact (j6f (by omega) (by omega) (by omega)).2.symm | (exfalso; omega)))) (Hx 603 (o := .box [.row 10, .row 11, .int (nB ⟨C, L, B⟩ (q0a L) k - (min (cf ⟨C, L, B⟩ ((q0a L).getD k 0)) (cf ⟨C, L, B⟩ (-((q0a L).getD k 0)))))]) (o' := .box [.row 10, .row 11, .int (nB ⟨C, L, B⟩ (q0a L) (k + 1))]) (congrArg q0d.box (q0c rfl (q0c rfl (q0c (congrArg AV.int (show (nB ⟨C, L, B⟩ (q0a L) k - (min (cf ⟨C, L, B⟩ ((q0a L).getD k 0)) (cf ⟨C, L, B⟩ (-((q0a L).getD k 0))))) = nB ⟨C, L, B⟩ (q0a L) (k + 1) from (by exact (j0b (by omega)).symm))) rfl)))) Hb))))))))))
       ·
        show (k + 1) ≤ (q0a L).length
        omega
       ·
        try dsimp only
        omega
    ·
     have q1 : nB ⟨C, L, B⟩ (q0a L) k = B - q1o ⟨C, L, B⟩ (q0a L) := (k5k (l := ⟨C, L, B⟩) (by show (q0a L).length ≤ k; omega)).1
     have q2 : nA ⟨C, L, B⟩ (q0a L) k = q0v (q0p ⟨C, L, B⟩ (q0a L)) := (k5k (l := ⟨C, L, B⟩) (by show (q0a L).length ≤ k; omega)).2.1
     have q3 : nC ⟨C, L, B⟩ (q0a L) k = (q0p ⟨C, L, B⟩ (q0a L)).map (·.1) := (k5k (l := ⟨C, L, B⟩) (by show (q0a L).length ≤ k; omega)).2.2.1
     have q4 : nL ⟨C, L, B⟩ (q0a L) k = (q0p ⟨C, L, B⟩ (q0a L)).map (·.2) := (k5k (l := ⟨C, L, B⟩) (by show (q0a L).length ≤ k; omega)).2.2.2
     refine Ze (Fe (Fe (Fs (Ft (Zs (Sz hcx [] [93] [22, 1, 5, 6] [] (Zj (p := (nB ⟨C, L, B⟩ (q0a L) k ≤ 0)) (fun h5 => ?_) fun h5 => ?_)))))))
     ·
      have hN : q0b ⟨C, L, B⟩ = y5w := (k0k hc).1 (by show B - q1o ⟨C, L, B⟩ (q0a L) ≤ 0; omega)
      exact Sz hcx [(602, .to 602)] [] [93, 3, 4] [10, 11, 603] (Zr (Fr (Fv 602 0 700 3 (.ints []) (Fv 602 1 701 3 (.ints []) (Fn [(700, .to 0), (701, .to 1), (602, .to 990)] [2] (Rv hcx (congrArg AV.agg (q0c rfl (q0c rfl (q0c (congrArg AV.int (show 0 = (q0b ⟨C, L, B⟩).B from (by exact (congrArg q2j.B hN).symm))) rfl)))) [true, true] (q0r (congrArg some (congrArg (fun x => q0d.row 3 (.ints x)) (show [] = (q0b ⟨C, L, B⟩).C from (by exact (congrArg q2j.C hN).symm)))) (q0r (congrArg some (congrArg (fun x => q0d.row 3 (.ints x)) (show [] = (q0b ⟨C, L, B⟩).L from (by exact (congrArg q2j.L hN).symm)))) rfl))))))))
     ·
      refine Zk (Ft (Zs (Sz hcx [] [98] [93, 4] [] (Zj (p := (nA ⟨C, L, B⟩ (q0a L) k < nB ⟨C, L, B⟩ (q0a L) k)) (fun h6 => ?_) fun h6 => ?_))))
      ·
       have hN : q0b ⟨C, L, B⟩ = ⟨[], [], 1⟩ := (k0k hc).2.1 (by show ¬ B - q1o ⟨C, L, B⟩ (q0a L) ≤ 0; omega) (by show q0v (q0p ⟨C, L, B⟩ (q0a L)) < B - q1o ⟨C, L, B⟩ (q0a L); omega)
       exact Sz hcx [(602, .to 602)] [] [98, 3] [10, 11, 603] (Zr (Fr (Fv 602 0 700 3 (.ints []) (Fv 602 1 701 3 (.ints []) (Fn [(700, .to 0), (701, .to 1), (602, .to 990)] [2] (Rv hcx (congrArg AV.agg (q0c rfl (q0c rfl (q0c (congrArg AV.int (show 1 = (q0b ⟨C, L, B⟩).B from (by exact (congrArg q2j.B hN).symm))) rfl)))) [true, true] (q0r (congrArg some (congrArg (fun x => q0d.row 3 (.ints x)) (show [] = (q0b ⟨C, L, B⟩).C from (by exact (congrArg q2j.C hN).symm)))) (q0r (congrArg some (congrArg (fun x => q0d.row 3 (.ints x)) (show [] = (q0b ⟨C, L, B⟩).L from (by exact (congrArg q2j.L hN).symm)))) rfl))))))))
      ·
       have hN : q0b ⟨C, L, B⟩ = ⟨(nC ⟨C, L, B⟩ (q0a L) k).map (fun c => min c (nB ⟨C, L, B⟩ (q0a L) k)), nL ⟨C, L, B⟩ (q0a L) k, nB ⟨C, L, B⟩ (q0a L) k⟩ := by rw [q1, q3, q4]; exact (k0k hc).2.2 (by show ¬ B - q1o ⟨C, L, B⟩ (q0a L) ≤ 0; omega) (by show ¬ q0v (q0p ⟨C, L, B⟩ (q0a L)) < B - q1o ⟨C, L, B⟩ (q0a L); omega)
       refine Zk (Ft (Zs (Sz hcx [] [9] [98] [] (Zb (Lp (X := Nat) (fun x0 => x0 ≤ (nC ⟨C, L, B⟩ (q0a L) k).length) (fun x0 => ([(2, .loc 602 0), (3, .loc 603 0), (9, .int (x0 : Int))], [(10, .row 3 (.ints (q4v (nC ⟨C, L, B⟩ (q0a L) k) (nB ⟨C, L, B⟩ (q0a L) k) x0))), (11, .row 3 (.ints (nL ⟨C, L, B⟩ (q0a L) k))), (602, .box [.im (.val (.slice none 0 0)), .im (.val (.slice none 0 0)), .int 0]), (603, .box [.row 10, .row 11, .int (nB ⟨C, L, B⟩ (q0a L) k)])])) (fun x0 => (nC ⟨C, L, B⟩ (q0a L) k).length - x0) (0) ?_ (Ex 9 (congrArg AV.int (show 0 = (0 : Int) from (by first | rfl | omega | (simp; done)))) Eb) (Hx 10 (congrArg (fun x => q0d.row 3 (.ints x)) (show nC ⟨C, L, B⟩ (q0a L) k = q4v (nC ⟨C, L, B⟩ (q0a L) k) (nB ⟨C, L, B⟩ (q0a L) k) 0 from (by exact (y3j _ _).symm))) Hb) fun i hI => ?_)))))
       ·
        show 0 ≤ (nC ⟨C, L, B⟩ (q0a L) k).length
        omega
       ·
        try dsimp only at hI
        have hml := y6b (nC ⟨C, L, B⟩ (q0a L) k) (nB ⟨C, L, B⟩ (q0a L) k) i
        refine Zs (Sz hcx [] [104] [] [] (Zj (p := ((i : Int) < ((q4v (nC ⟨C, L, B⟩ (q0a L) k) (nB ⟨C, L, B⟩ (q0a L) k) i).length : Int))) (fun h7 => ?_) fun h7 => ?_))
        ·
         refine Zk (Ft (Zs (Zb (Td hcx hmx [0, 1, 0, 0, 8, 0, 56, 120, 0, 256, 1016, 2047, 4095] [(10, .to 10)] [] [104] [] [((0 : Int) ≤ (i : Int) ∧ (i : Int) < ((q4v (nC ⟨C, L, B⟩ (q0a L) k) (nB ⟨C, L, B⟩ (q0a L) k) i).length : Int)), (i < (q4v (nC ⟨C, L, B⟩ (q0a L) k) (nB ⟨C, L, B⟩ (q0a L) k) i).length), ((0 : Int) ≤ (i : Int) ∧ (i : Int) < ((q4v (nC ⟨C, L, B⟩ (q0a L) k) (nB ⟨C, L, B⟩ (q0a L) k) i).length : Int)), (i < (q4v (nC ⟨C, L, B⟩ (q0a L) k) (nB ⟨C, L, B⟩ (q0a L) k) i).length)] ?_ (Fb (Ft (Tq hcx [] [9] [] [] [Fit ((i : Int) + 1)] (ap (by omega) az) (Lr (i + 1) ?_ ?_ (Ex 9 (congrArg AV.int (show ((i : Int) + 1) = ((i + 1) : Int) from (by first | rfl | omega | (simp; done)))) Eb) (Hx 10 (congrArg (fun x => q0d.row 3 (.ints x)) (show ((q4v (nC ⟨C, L, B⟩ (q0a L) k) (nB ⟨C, L, B⟩ (q0a L) k) i).set i (min ((q4v (nC ⟨C, L, B⟩ (q0a L) k) (nB ⟨C, L, B⟩ (q0a L) k) i).getD i 0) (nB ⟨C, L, B⟩ (q0a L) k))) = q4v (nC ⟨C, L, B⟩ (q0a L) k) (nB ⟨C, L, B⟩ (q0a L) k) (i + 1) from (by exact y2h (by omega)))) Hb)))))))))
         ·
          refine ap ?_ (ap ?_ (ap ?_ (ap ?_ az))) <;>
           omega
         ·
          try dsimp only
          omega
         ·
          try dsimp only
          omega
        ·
         exact Ze (Fe (Fe (Fs (Ft (Sz hcx [(602, .to 602)] [] [104, 3, 9] [603] (Zr (Fn [(10, .to 0), (11, .to 1), (602, .to 990)] [2] (Rv hcx (congrArg AV.agg (q0c rfl (q0c rfl (q0c (congrArg AV.int (show nB ⟨C, L, B⟩ (q0a L) k = (q0b ⟨C, L, B⟩).B from (by exact (congrArg q2j.B hN).symm))) rfl)))) [true, true] (q0r (congrArg some (congrArg (fun x => q0d.row 3 (.ints x)) (show q4v (nC ⟨C, L, B⟩ (q0a L) k) (nB ⟨C, L, B⟩ (q0a L) k) i = (q0b ⟨C, L, B⟩).C from (by rw [y7p (by omega)]; exact (congrArg q2j.C hN).symm)))) (q0r (congrArg some (congrArg (fun x => q0d.row 3 (.ints x)) (show nL ⟨C, L, B⟩ (q0a L) k = (q0b ⟨C, L, B⟩).L from (by exact (congrArg q2j.L hN).symm)))) rfl))))))))))
 ·
  cases hσ
end Go.Proofs.YtkkapbnopmmmjaaGreatDoor.En
