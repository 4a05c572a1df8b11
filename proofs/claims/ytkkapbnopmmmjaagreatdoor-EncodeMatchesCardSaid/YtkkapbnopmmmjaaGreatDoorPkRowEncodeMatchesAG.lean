/- Lemmas and contracts for the row. -/
import Derived.Test.YtkkapbnopmmmjaaGreatDoorPkRowEncodeMatchesP
import Derived.Test.YtkkapbnopmmmjaaGreatDoorPkRowEncodeMatchesC
import Derived.Test.YtkkapbnopmmmjaaGreatDoorPkRowEncodeMatchesQ
import Derived.Test.YtkkapbnopmmmjaaGreatDoorPkRowEncodeMatchesAF
import Derived.Test.YtkkapbnopmmmjaaGreatDoorPkRowEncodeMatchesY
import Derived.Lib.RowBridge
import Derived.Shelf.SlSortCmp.NoneTotal
import Derived.Test.YtkkapbnopmmmjaaGreatDoorProg
import Derived.Test.YtkkapbnopmmmjaaGreatDoorPkRowEncodeMatchesX
import Derived.Test.YtkkapbnopmmmjaaGreatDoorPkRowEncodeMatchesL
set_option linter.unusedVariables false
set_option linter.unusedSimpArgs false
set_option linter.unnecessarySimpa false
namespace Go.Proofs.YtkkapbnopmmmjaaGreatDoor
open Go Go.RowKit Go.Sort Go.Shelf
open Cn (ahd k7q)
theorem k0m : OneCell I64 := fun _ => rfl
def Turned (e : Nat) (w : World) (v : Value) (us : List Value) (w' : World) (v' : Value) : Prop := Own w' e v' us ∧ w.grownBy w' v.ownBlock ∧ ∀ b, v'.ownBlock = some b → v.ownBlock = some b
theorem x1z {w w' : World} {g : Nat} (h : Kp (fun b => b = g) w w') : w.grownBy w' (some g) := ⟨h.os, h.tape, h.output, h.size, fun k hk hn => h.block k hk (fun e => hn (by rw [e]))⟩
theorem y3e (w : World) (r : Option Nat) : w.grownBy w r := ⟨rfl, rfl, rfl, Nat.le_refl _, fun _ _ _ => rfl⟩
theorem x2r {α : Type} [Inhabited α] (enc : α → Value) (w : World) (blk off q : Nat) (d : Array α) : putRow enc (Sort.ahead w q) blk off d = sortWorld enc w blk off q d #[] := by unfold sortWorld; rw [grow_empty]
def k3p (f : Nat) (lb : List Value) (p : Int → Bool) (G : Nat → Prop) (w : World) : Prop :=
 ∀ (W : World) (x : Int), (∀ b, G b → W.heap[b]? = w.heap[b]?) → Calls Tryz.prog f (I64 x :: lb).toArray W fun e w' => e = .returned (.bool (p x)) ∧ W = w'
theorem x3e (A : Option Addr) (c : Nat) (fv : Value) (w : World) : Calls Tryz.prog 101 #[.slice A 0 c, fv] w fun e w' => e = .returned (I64 (-1)) ∧ w = w' := by
 go_enter Tryz.func101, Tryz.ntmps101
 go_wp2_with fail
 refine wp_loop_rounds 1 ?_
 rw [rounds_succ]
 go_wp2_with fail
 go_ret
 exact ⟨rfl, rfl⟩
theorem y5r (A : Option Addr) (c : Nat) (fv : Value) (w : World) : Calls Tryz.prog 146 #[.slice A 0 c, fv] w fun e w' => e = .returned (.slice A 0 c) ∧ w = w' := by
 go_enter Tryz.func146, Tryz.ntmps146
 go_wp2_with fail
 refine (x3e A c fv w).mono ?_
 rintro e w1 ⟨rfl, rfl⟩
 go_wp2_with fail
 go_ret
 exact ⟨rfl, rfl⟩
theorem k0p {f : Nat} {lb : List Value} {p : Int → Bool} {G : Nat → Prop} {v : Value} {xs : List Int} {w : World} (heg : ∀ (args : Array Value) (w : World), (callFunc f args).run Tryz.prog w = .ok (.enter f args) w)
 (hG : ∀ b, G b → b < w.heap.size) (hv : ∀ b, v.ownBlock = some b → ¬ G b) (hp : k3p f lb p G w) (ho : Own w 3 v (xs.map I64)) (hl : xs.length ≤ maxLen) :
 Calls Tryz.prog 146 #[v, .func (.func f) #[] lb.toArray] w fun e w' => ∃ v', e = .returned v' ∧ Turned 3 w v ((xs.filter fun x => !p x).map I64) w' v' := by
 obtain ⟨A, cap, hform, _⟩ := ho.form
 rw [List.length_map] at hform
 subst hform
 by_cases h0 : xs.length = 0
 · obtain rfl := List.eq_nil_of_length_eq_zero h0
   refine (y5r A cap _ w).mono ?_
   rintro e w' ⟨rfl, rfl⟩
   exact ⟨_, rfl, ho, y3e _ _, fun _ h => h⟩
 · obtain ⟨g, off, rfl⟩ := ho.addr (by omega)
   obtain ⟨cur, h1, h2, h3, h4, _⟩ := ho.cur rfl
   rw [List.length_map] at h2
   have hng : ¬ G g := hv g rfl
   have hcall : ∀ (W : World) (x : Int), (∀ b, G b → W.heap[b]? = w.heap[b]?) → FnGives Tryz.prog f lb.toArray #[I64 x] (.bool (p x)) W := fun W x hW => by
    unfold FnGives
    have e : #[I64 x] ++ lb.toArray = (I64 x :: lb).toArray := by simp
    rw [e]
    refine (hp W x hW).mono ?_
    rintro e w' ⟨rfl, rfl⟩
    exact ⟨rfl, 0, rfl⟩
   have h := AnyE.slices_DeleteFunc Tryz.shDelete I64 k0m p f lb.toArray heg 0 (fun w => Tryz.zeroValue3 w) g off cap xs.toArray w
    (fun W x hb => hcall W x fun b hb' => hb.block b (hG b hb')) (fun n os dk x _ => hcall _ x fun b hb' => (y9f n dk os).block b (hG b hb') (fun e => hng (e ▸ hb')))
    (y5e ho) (by simp; unfold maxLen at hl; omega) (by simpa using h2)
   simp only [List.size_toArray, List.toList_toArray] at h
   refine Calls.mono h ?_
   rintro e w' ⟨rfl, q, rfl⟩
   have hfl : (xs.filter fun x => !p x).length ≤ xs.length := List.length_filter_le _ _
   rw [x2r]
   refine ⟨_, rfl, ?_, x1z (y9f _ _ _), fun b h => h⟩
   have := x2o ho q #[] (ys := (xs.filter fun x => !p x) ++ List.replicate (xs.length - (xs.filter fun x => !p x).length) 0) (by simp; omega) (m := (xs.filter fun x => !p x).length) (by simp)
   rw [List.take_left'] at this
   · exact this
   · rfl
abbrev Lit := { x : Int // Cn.k9g x 65536 = true }
instance : Inhabited Lit := ⟨⟨1, by decide⟩⟩
end Go.Proofs.YtkkapbnopmmmjaaGreatDoor
namespace Go.Proofs.YtkkapbnopmmmjaaGreatDoor.En
open Go Go.RowKit
theorem y2t {w : World} {v : Value} {us : List Value} {e : Ending} {w' : World} (h : ∃ v', e = .returned v' ∧ Turned 3 w v us w' v') :
 ∃ v', e = .returned v' ∧ Own w' 3 v' us ∧ w.grownBy w' v.ownBlock ∧ ∀ b, v'.ownBlock = some b → v.ownBlock = some b ∨ b = w.heap.size := by
 obtain ⟨v', h1, h2, h3, h4⟩ := h
 exact ⟨v', h1, h2, h3, fun b hb => .inl (h4 b hb)⟩
end Go.Proofs.YtkkapbnopmmmjaaGreatDoor.En
namespace Go.Proofs.YtkkapbnopmmmjaaGreatDoor.En
open Go Go.RowKit
theorem k4f (x : Int) (w : World) : Calls Tryz.prog 184 #[I64 x] w fun e w' => e = .returned (.bool (x == 0)) ∧ w = w' := by
 go_enter Tryz.func184, Tryz.ntmps184
 go_wp2_with fail
 go_ret
 exact ⟨rfl, rfl⟩
def x8y : CtF := fun args os => match args, os with
 | [.row 0, .clo 184 []], [.row 3 (.ints xs)] => some (xs.length ≤ 1000000000000, .row 1, [none, some (.row 3 (.ints (xs.filter fun x => !(x == 0))))])
 | _, _ => none
theorem j7s : q0o Tryz.prog 146 x8y := by
 refine sound_row (e := 3) (q2w Tryz.func146 (by kernel_rfl) rfl) fun args os p r outs h => ?_
 unfold x8y at h
 split at h
 · rename_i xs
   injection h with h
   injection h with h1 h
   injection h with h2 h3
   subst h1 h2 h3
   refine ⟨_, .ints xs, _, rfl, rfl, rfl, rfl, rfl, rfl, rfl, fun hp => ⟨?_, fun W G v vs hG hn _ ho hl hd => ?_⟩⟩
   · have := List.length_filter_le (fun x => !(x == 0)) xs
     show (xs.filter _).length ≤ maxLen
     unfold maxLen; omega
   · simp only [q0l, Den] at hd
     obtain ⟨v1, vs', rfl, ⟨lb, hv1, rfl⟩, rfl⟩ := hd
     rw [y0h (by kernel_rfl)] at hv1
     subst hv1
     have := k0p (f := 184) (lb := []) (p := fun x => x == 0) (G := G) (v := v) (xs := xs) (w := W) (q2w Tryz.func184 (by kernel_rfl) rfl) hG hn (fun W x _ => k4f x W) ho hl
     exact this.mono fun e' W' h => y2t h
 · cases h
end Go.Proofs.YtkkapbnopmmmjaaGreatDoor.En
namespace Go.Proofs.YtkkapbnopmmmjaaGreatDoor.En
open Go Go.RowKit
def y3q : List (Nat × TD) := [(3, ⟨1, false, [.int .i64 0], [], none, 8, false, 1, 1⟩),
 (4, ⟨1, false, [.bool false], [], none, 1, true, 0, 2⟩),
 (22, ⟨1, false, [.slice none 0 0], [], some 3, 24, false, 0, 53⟩),
 (26, ⟨1, false, [.int .i64 0], [], none, 8, false, 1, 1⟩),
 (30, ⟨1, false, [.slice none 0 0], [], some 22, 24, false, 0, 0⟩),
 (88, ⟨1, false, [.nilFunc], [], none, 8, false, 0, 0⟩),
 (184, ⟨1, true, [.slice none 0 0], [(0, 30)], none, 24, false, 0, 0⟩),
 (205, ⟨1, false, [.map none], [], none, 8, false, 10, 4⟩)]
theorem z0j : q7v Tryz.prog y3q := ⟨⟨by kernel_rfl, by kernel_rfl, by kernel_rfl⟩, ⟨by kernel_rfl, by kernel_rfl, by kernel_rfl⟩, ⟨by kernel_rfl, by kernel_rfl, by kernel_rfl⟩, ⟨by kernel_rfl, by kernel_rfl, by kernel_rfl⟩, ⟨by kernel_rfl, by kernel_rfl, by kernel_rfl⟩, ⟨by kernel_rfl, by kernel_rfl, by kernel_rfl⟩, ⟨by kernel_rfl, by kernel_rfl, by kernel_rfl⟩, ⟨by kernel_rfl, by kernel_rfl, by kernel_rfl⟩, trivial⟩
def j5o : Cx := ⟨y3q, [], true⟩
theorem j6d : q1g Tryz.prog j5o := q1b z0j trivial
def j2a : CtF
 | [.im (.ls (.ints l)), .im (.val (.int .i64 next))], [] => some (l.length ≤ maxLen ∧ (∀ x ∈ l, -70000 ≤ x ∧ x ≤ 70000), .int (Cn.q1c next l), [])
 | _, _ => none
theorem j4p : q0o Tryz.prog 162 j2a := by
 refine Sw (cx := j5o) Tryz.f162 Tryz.func162 ?_
 intro wW wO wβ G0 args os p r outs hσ hp
 have hcx := j6d
 unfold j2a at hσ
 split at hσ
 ·
  rename_i l next
  cases hσ
  refine ⟨by kernel_rfl, ?_⟩
  obtain ⟨hm1, hm2⟩ := hp
  unfold maxLen at hm1
  have hb := fun i (h : i < l.length) => hm2 _ (Cn.q0u (d := (0 : Int)) (k := i) h)
  refine Sz hcx [] [] [] [] (Zs (Sq hcx [] [19] [] [] [((!(decide (next < 1))) = true → ((!(decide (next < 1))) = true)), ((decide (next < 1)) = false → (!(decide (next < 1))) = true), ((!((decide (next < 1)) || (decide (next > 65537)))) = true → ((!((decide (next < 1)) || (decide (next > 65537)))) = true)), ((!((decide (next < 1)) || (decide (next > 65537)))) = true → ((!((decide (next < 1)) || (decide (next > 65537)))) = true)), (((decide (next < 1)) || (decide (next > 65537))) = false → (!((decide (next < 1)) || (decide (next > 65537)))) = true)] ?_ (Zi (b := ((decide (next < 1)) || (decide (next > 65537))) || (decide ((l.length : Int) > 4096))) (fun h0 => ?_) fun h0 => ?_)))
  ·
   refine ap ?_ (ap (by exact q1v) (ap ?_ (ap ?_ (ap (by exact q1v) az)))) <;>
    exact id
  ·
   have hr := Cn.x5h h0
   exact Sz hcx [] [4] [19, 0, 1] [] (Zr (Fr (Rv hcx (congrArg AV.int (show 1 = (Cn.q1c next l) from (by exact hr.symm))) [] rfl)))
  ·
   have hg := Cn.k3i h0
   refine Zk (Ft (Sz hcx [(1000, .to 220)] [5] [19] [] (Zs (Sz hcx [] [21, 22, 23] [0] [] (Zb (Zn [(220, .to 700)] [1, 5, 21, 22, 23] (Lp (X := Nat) (fun x0 => x0 ≤ l.length ∧ ∀ j, j < x0 → Cn.x9c next l j = true) (fun x0 => ([(1, .int next), (5, .row 700), (21, .ints l), (22, .int (l.length : Int)), (23, .int (x0 : Int))], [(700, .mset (Cn.z5z (l.take x0)))])) (fun x0 => l.length - x0) (0) ?_ (Ex 23 (congrArg AV.int (show 0 = (0 : Int) from (by first | rfl | omega | (simp; done)))) Eb) Hb fun i hI => ?_)))))))
   ·
    exact ⟨Nat.zero_le _, fun j hj => by omega⟩
   ·
    try dsimp only at hI
    obtain ⟨hk, hok⟩ := hI
    have hbi := hb i
    refine Sz hcx [] [24] [] [] (Zs (Zj (p := ((i : Int) < (l.length : Int))) (fun h1 => ?_) fun h1 => ?_))
    ·
     refine Zk (Ft (Zs (Zb (Sq hcx [] [7] [24] [] [((0 : Int) ≤ (i : Int) ∧ (i : Int) < (l.length : Int))] ?_ (Sq hcx [] [8] [7] [] [Fit (-(l.getD i 0))] ?_ (Zs (Sq hcx [] [42] [] [] [((!(decide ((max (l.getD i 0) (-(l.getD i 0))) ≤ 0))) = true → ((!(decide ((max (l.getD i 0) (-(l.getD i 0))) ≤ 0))) = true)), ((!(decide ((max (l.getD i 0) (-(l.getD i 0))) ≤ 0))) = true → ((!(decide ((max (l.getD i 0) (-(l.getD i 0))) ≤ 0))) = true)), ((decide ((max (l.getD i 0) (-(l.getD i 0))) ≤ 0)) = false → (!(decide ((max (l.getD i 0) (-(l.getD i 0))) ≤ 0))) = true), ((!((decide ((max (l.getD i 0) (-(l.getD i 0))) ≤ 0)) || (decide ((max (l.getD i 0) (-(l.getD i 0))) ≥ next)))) = true → ((!((decide ((max (l.getD i 0) (-(l.getD i 0))) ≤ 0)) || (decide ((max (l.getD i 0) (-(l.getD i 0))) ≥ next)))) = true)), ((!((decide ((max (l.getD i 0) (-(l.getD i 0))) ≤ 0)) || (decide ((max (l.getD i 0) (-(l.getD i 0))) ≥ next)))) = true → ((!((decide ((max (l.getD i 0) (-(l.getD i 0))) ≤ 0)) || (decide ((max (l.getD i 0) (-(l.getD i 0))) ≥ next)))) = true)), (((decide ((max (l.getD i 0) (-(l.getD i 0))) ≤ 0)) || (decide ((max (l.getD i 0) (-(l.getD i 0))) ≥ next))) = false → (!((decide ((max (l.getD i 0) (-(l.getD i 0))) ≤ 0)) || (decide ((max (l.getD i 0) (-(l.getD i 0))) ≥ next)))) = true)] ?_ (Zi (b := ((decide ((max (l.getD i 0) (-(l.getD i 0))) ≤ 0)) || (decide ((max (l.getD i 0) (-(l.getD i 0))) ≥ next))) || ((Cn.z5z (l.take i)).contains (max (l.getD i 0) (-(l.getD i 0))))) (fun h2 => ?_) fun h2 => ?_))))))))
     ·
      refine ap ?_ az
      omega
     ·
      refine ap ?_ az
      omega
     ·
      refine ap ?_ (ap ?_ (ap (by exact q1v) (ap ?_ (ap ?_ (ap (by exact q1v) az))))) <;>
       exact id
     ·
      have hq : Cn.x9c next l i = false := Cn.k7x h2
      have hr := Cn.k2o hg (by omega) hq
      exact Sz hcx [] [4] [42, 8, 1, 5, 21, 22, 23] [700] (Zr (Fr (Fk (Fr (Fr (Fk (Fr (Rv hcx (congrArg AV.int (show 140 = (Cn.q1c next l) from (by exact hr.symm))) [] rfl))))))))
     ·
      have hq : Cn.x9c next l i = true := Cn.k7z h2
      refine Zk (Ft (Tq hcx [(700, .to 700)] [] [42, 8] [] [(true = true)] ?_ (Fb (Ft (Tq hcx [] [23] [] [] [Fit ((i : Int) + 1)] ?_ (Lr (i + 1) ?_ ?_ (Ex 23 (congrArg AV.int (show ((i : Int) + 1) = ((i + 1) : Int) from (by first | rfl | omega | (simp; done)))) Eb) (Hx 700 (congrArg q0d.mset (show (y0s (Cn.z5z (l.take i)) (max (l.getD i 0) (-(l.getD i 0)))) = (Cn.z5z (l.take (i + 1))) from (by exact Cn.y2p (by omega)))) Hb)))))))
      ·
       refine ap ?_ az
       (have h8 := hbi (by omega); constructor <;> omega)
      ·
       refine ap ?_ az
       omega
      ·
       exact ⟨by omega, fun j hj => by rcases (by omega : j < i ∨ j = i) with h | rfl; exact hok j h; exact hq⟩
      ·
       show l.length - (i + 1) < l.length - i
       omega
    ·
     have hr := Cn.k0s hg (by omega) hok
     exact Ze (Fe (Fe (Fs (Ft (Sz hcx [] [4] [24, 1, 5, 21, 22, 23] [700] (Zr (Rv hcx (congrArg AV.int (show 0 = (Cn.q1c next l) from (by exact hr.symm))) [] rfl)))))))
 ·
  cases hσ
def y8v : Cx := ⟨y3q, [(146, x8y)], true⟩
theorem y3k : q1g Tryz.prog y8v := q1b z0j ⟨j7s, trivial⟩
def y5z : CtF
 | [.loc 0 0, .row 1], [.box [.row 2], .row 3 (.ints xs), .row 22 (.intss c)] => some (xs.length ≤ 1000 ∧ c.length ≤ 1000000000000, .tup [], [some (.box [.row 3]), none, none, some (.row 22 (.intss (c ++ [Cn.nz xs])))])
 | _, _ => none
theorem y2w : q0o Tryz.prog 163 y5z := by
 refine Sw (cx := y8v) Tryz.f163 Tryz.func163 ?_
 intro wW wO wβ G0 args os p r outs hσ hp
 have hcx := y3k
 have hmx : Tryz.prog.follows .mixedOrders = true := by kernel_rfl
 unfold y5z at hσ
 split at hσ
 ·
  rename_i xs c
  cases hσ
  refine ⟨by kernel_rfl, ?_⟩
  obtain ⟨hm1, hm2⟩ := hp
  refine Td hcx hmx [0, 0, 2, 6, 14, 0, 32, 96, 254, 511, 1023, 2047] [(0, .to 0), (1008, .to 212)] [] [0, 1] [1, 2] [(xs.length ≤ 1000000000000), ((c.length + [(xs.filter fun x => !(x == 0))].length) * 24 ≤ 140737488355328)] ?_ (Fn [(0, .to 0), (212, .to 3)] [] (Rw hcx rfl [true, false, false, true] (q0r rfl (q0r rfl (q0r rfl (q0r (congrArg some (congrArg (fun x => q0d.row 22 (.intss x)) (show (c ++ [(xs.filter fun x => !(x == 0))]) = (c ++ [Cn.nz xs]) from (by first | rfl | (simp; done))))) rfl))))))
  ·
   refine ap ?_ (ap ?_ az) <;>
    first | omega | (simp only [List.length_cons, List.length_nil, List.length_append, List.length_map, List.length_set, List.length_replicate]; omega)
 ·
  cases hσ
def y1r : Cx := ⟨y3q, [], true⟩
theorem j6n : q1g Tryz.prog y1r := q1b z0j trivial
def j8r : CtF
 | [.im (.val (.int .i64 j)), .pto [.val (.int .i64 m)], .pto [.val (.int .i64 b)]], [] => some (-1000000000 ≤ b ∧ b ≤ 1000000000 ∧ -1000000000 ≤ j ∧ j ≤ 1000000000, .int (Cn.q2f b m j), [])
 | _, _ => none
theorem j8a : q0o Tryz.prog 185 j8r := by
 refine Sw (cx := y1r) Tryz.f185 Tryz.func185 ?_
 intro wW wO wβ G0 args os p r outs hσ hp
 have hcx := j6n
 unfold j8r at hσ
 split at hσ
 ·
  rename_i j m b
  cases hσ
  refine ⟨by kernel_rfl, ?_⟩
  obtain ⟨h1_, h2_, h3_, h4_⟩ := hp
  refine Sz hcx [] [] [] [] (Zs (Sq hcx [] [11] [1] [] [((!(decide (j < 1))) = true → ((!(decide (j < 1))) = true)), ((!(decide (j < 1))) = true → ((!(decide (j < 1))) = true)), ((decide (j < 1)) = false → (!(decide (j < 1))) = true)] ?_ (Zi (b := (decide (j < 1)) || (decide (j > m))) (fun h0 => ?_) fun h0 => ?_)))
  ·
   refine ap ?_ (ap ?_ (ap (by exact q1v) az)) <;>
    exact id
  ·
   have hr := Cn.x7h (b := b) h0
   exact Sz hcx [] [4] [11, 0, 2] [] (Zr (Fr (Rv hcx (congrArg AV.int (show 0 = (Cn.q2f b m j) from (by exact hr.symm))) [] rfl)))
  ·
   have hr := Cn.k1p (b := b) h0
   refine Zk (Ft (Sq hcx [] [4] [11, 0, 2] [] [Fit (b + j), Fit ((b + j) - 1)] ?_ (Zr (Rv hcx (congrArg AV.int (show ((b + j) - 1) = (Cn.q2f b m j) from (by exact hr.symm))) [] rfl))))
   ·
    refine ap ?_ (ap ?_ az) <;>
     omega
 ·
  cases hσ
def y5v : Cx := ⟨y3q, [], true⟩
theorem y2i : q1g Tryz.prog y5v := q1b z0j trivial
def y5s : CtF
 | [.im (.val (.int .i64 b)), .im (.val (.int .i64 m))], [] => some (True, .clo 185 [.pto [.int m], .pto [.int b]], [])
 | _, _ => none
theorem y3o : q0o Tryz.prog 164 y5s := by
 refine Sw (cx := y5v) Tryz.f164 Tryz.func164 ?_
 intro wW wO wβ G0 args os p r outs hσ hp
 have hcx := y2i
 unfold y5s at hσ
 split at hσ
 ·
  rename_i b m
  cases hσ
  refine ⟨by kernel_rfl, ?_⟩
  exact Sz hcx [(1000, .frz), (1001, .frz)] [2, 3] [0, 1] [] (Sz hcx [] [4] [2, 3] [] (Zr (Ru hcx [])))
 ·
  cases hσ
def j3s : Cx := ⟨y3q, [(162, (q2g [.ld (.ints []), .id] j2a)), (163, y5z), (185, j8r), (164, y5s)], true⟩
theorem j5l : q1g Tryz.prog j3s := q1b z0j ⟨(j4p.coe [.ld (.ints []), .id] rfl), y2w, j8a, y3o, trivial⟩
def j1a : CtF
 | [.im (.ls (.ints l)), .im (.val (.int .i64 k)), .im (.val (.int .i64 next))], [] => some (l.length ≤ maxLen ∧ (∀ x ∈ l, -70000 ≤ x ∧ x ≤ 70000) ∧ Fit k ∧ Fit next, .tup [.intss ((Cn.q0i l k next).1), .int ((Cn.q0i l k next).2.1), .int ((Cn.q0i l k next).2.2)], [])
 | _, _ => none
set_option maxRecDepth 20000 in
set_option maxHeartbeats 4000000 in
theorem j4e : q0o Tryz.prog 130 j1a := by
 refine Sw (cx := j3s) Tryz.f130 Tryz.func130 ?_
 intro wW wO wβ G0 args os p r outs hσ hp
 have hcx := j5l
 have hmx : Tryz.prog.follows .mixedOrders = true := by kernel_rfl
 unfold j1a at hσ
 split at hσ
 ·
  rename_i l k next
  cases hσ
  refine ⟨by kernel_rfl, ?_⟩
  obtain ⟨hm1, hm2, hf1, hf2⟩ := hp
  have hm3 := hm1
  unfold maxLen at hm3
  have hb := fun i (h : i < l.length) => hm2 _ (Cn.q0u (d := (0 : Int)) (k := i) h)
  refine Sz hcx [] [] [] [] (Zs (Sq hcx [] [9] [] [] [(l.length ≤ maxLen ∧ (∀ x ∈ l, -70000 ≤ x ∧ x ≤ 70000))] ?_ (Sz hcx [] [23] [] [] (Zx (a := (Cn.q1c next l)) (b := 0) (fun h0 => ?_) fun h0 => ?_))))
  ·
   refine ap ?_ az
   exact ⟨hm1, hm2⟩
  ·
   have hr := Cn.y1f (k := k) h0
   exact Sz hcx [] [6, 7, 8] [23, 9, 0, 1, 2] [] (Zr (Fr (Fp 6 (.intss []) (Rv hcx (congrArg AV.tup (q0c (congrArg AV.intss (show [] = (Cn.q0i l k next).1 from (by first | (rw [hr]; done) | (rw [hr, ← hil]; done)))) (q0c (congrArg AV.int (show 0 = (Cn.q0i l k next).2.1 from (by first | (rw [hr]; done) | (rw [hr, ← hil]; done)))) (q0c (congrArg AV.int (show (Cn.q1c next l) = (Cn.q0i l k next).2.2 from (by first | (rw [hr]; done) | (rw [hr, ← hil]; done)))) rfl)))) [] rfl))))
  ·
   have h0 : Cn.q1c next l = 0 := by simpa using h0
   obtain ⟨g1, g2, g3⟩ := Cn.z4r h0
   refine Zk (Ft (Sz hcx [] [10] [23, 9] [] (Zs (Zb (Sz hcx [] [27] [] [] (Zj (p := (k ≤ 0)) (fun h1 => ?_) fun h1 => ?_))))))
   ·
    have hr := Cn.k5v h0 h1
    exact Sz hcx [] [6, 7, 8] [27, 10, 0, 1, 2] [] (Zr (Fk (Fr (Fp 6 (.intss []) (Rv hcx (congrArg AV.tup (q0c (congrArg AV.intss (show [] = (Cn.q0i l k next).1 from (by first | (rw [hr]; done) | (rw [hr, ← hil]; done)))) (q0c (congrArg AV.int (show next = (Cn.q0i l k next).2.1 from (by first | (rw [hr]; done) | (rw [hr, ← hil]; done)))) (q0c (congrArg AV.int (show 0 = (Cn.q0i l k next).2.2 from (by first | (rw [hr]; done) | (rw [hr, ← hil]; done)))) rfl)))) [] rfl)))))
   ·
    have h27 := h1
    refine Sz hcx [] [31] [27] [] (Zj (p := (k > (l.length : Int))) (fun h2 => ?_) fun h2 => ?_)
    ·
     have hr := Cn.k5n h0 h27 h2
     exact Sz hcx [] [6, 7, 8] [31, 10, 0, 1, 2] [] (Zr (Fk (Fr (Rv hcx (congrArg AV.tup (q0c (congrArg AV.intss (show [[]] = (Cn.q0i l k next).1 from (by first | (rw [hr]; done) | (rw [hr, ← hil]; done)))) (q0c (congrArg AV.int (show next = (Cn.q0i l k next).2.1 from (by first | (rw [hr]; done) | (rw [hr, ← hil]; done)))) (q0c (congrArg AV.int (show 0 = (Cn.q0i l k next).2.2 from (by first | (rw [hr]; done) | (rw [hr, ← hil]; done)))) rfl)))) [] rfl))))
    ·
     have h31 := h2
     obtain ⟨b1, b2, b3, b4, b5, b6⟩ := Cn.k6n (k := k) (n := (l.length : Int)) (by omega) (by omega) (by omega)
     refine Zk (Fb (Ft (Zs (Sq hcx [] [11] [31] [] [Fit (k - 1), Fit (k * (k - 1)), ((2 : Int) ≠ 0 ∧ Fit ((k * (k - 1)).tdiv 2)), Fit ((l.length : Int) - k), Fit (((l.length : Int) - k) + 1), Fit (k * (((l.length : Int) - k) + 1)), Fit (((k * (k - 1)).tdiv 2) + (k * (((l.length : Int) - k) + 1)))] ?_ (Sq hcx [] [62] [11] [] [Fit (next + (((k * (k - 1)).tdiv 2) + (k * (((l.length : Int) - k) + 1)))), Fit ((next + (((k * (k - 1)).tdiv 2) + (k * (((l.length : Int) - k) + 1)))) - 1), ((!(decide (((next + (((k * (k - 1)).tdiv 2) + (k * (((l.length : Int) - k) + 1)))) - 1) > 65536))) = true → ((!(decide (((next + (((k * (k - 1)).tdiv 2) + (k * (((l.length : Int) - k) + 1)))) - 1) > 65536))) = true)), ((!(decide (((next + (((k * (k - 1)).tdiv 2) + (k * (((l.length : Int) - k) + 1)))) - 1) > 65536))) = true → Fit (2 * (((k * (k - 1)).tdiv 2) + (k * (((l.length : Int) - k) + 1))))), ((!(decide (((next + (((k * (k - 1)).tdiv 2) + (k * (((l.length : Int) - k) + 1)))) - 1) > 65536))) = true → ((!(decide (((next + (((k * (k - 1)).tdiv 2) + (k * (((l.length : Int) - k) + 1)))) - 1) > 65536))) = true)), ((!(decide (((next + (((k * (k - 1)).tdiv 2) + (k * (((l.length : Int) - k) + 1)))) - 1) > 65536))) = true → ((!(decide (((next + (((k * (k - 1)).tdiv 2) + (k * (((l.length : Int) - k) + 1)))) - 1) > 65536))) = true)), ((!(decide (((next + (((k * (k - 1)).tdiv 2) + (k * (((l.length : Int) - k) + 1)))) - 1) > 65536))) = true → Fit ((2 * (((k * (k - 1)).tdiv 2) + (k * (((l.length : Int) - k) + 1)))) - (l.length : Int))), ((!(decide (((next + (((k * (k - 1)).tdiv 2) + (k * (((l.length : Int) - k) + 1)))) - 1) > 65536))) = true → ((!(decide (((next + (((k * (k - 1)).tdiv 2) + (k * (((l.length : Int) - k) + 1)))) - 1) > 65536))) = true)), ((!(decide (((next + (((k * (k - 1)).tdiv 2) + (k * (((l.length : Int) - k) + 1)))) - 1) > 65536))) = true → Fit (((2 * (((k * (k - 1)).tdiv 2) + (k * (((l.length : Int) - k) + 1)))) - (l.length : Int)) + 1)), ((!(decide (((next + (((k * (k - 1)).tdiv 2) + (k * (((l.length : Int) - k) + 1)))) - 1) > 65536))) = true → ((!(decide (((next + (((k * (k - 1)).tdiv 2) + (k * (((l.length : Int) - k) + 1)))) - 1) > 65536))) = true)), ((decide (((next + (((k * (k - 1)).tdiv 2) + (k * (((l.length : Int) - k) + 1)))) - 1) > 65536)) = false → (!(decide (((next + (((k * (k - 1)).tdiv 2) + (k * (((l.length : Int) - k) + 1)))) - 1) > 65536))) = true)] ?_ (Zi (b := (decide (((next + (((k * (k - 1)).tdiv 2) + (k * (((l.length : Int) - k) + 1)))) - 1) > 65536)) || (decide ((((2 * (((k * (k - 1)).tdiv 2) + (k * (((l.length : Int) - k) + 1)))) - (l.length : Int)) + 1) > 65536))) (fun h3 => ?_) fun h3 => ?_))))))
     ·
      refine ap ?_ (ap ?_ (ap ?_ (ap ?_ (ap ?_ (ap ?_ (ap ?_ az)))))) <;>
       omega
     ·
      refine ap ?_ (ap ?_ (ap ?_ (ap ?_ (ap ?_ (ap ?_ (ap ?_ (ap ?_ (ap ?_ (ap ?_ (ap (by exact q1v) az)))))))))) <;>
       first | omega | exact id
     ·
      have hr := Cn.j4j h0 h27 h31 h3
      exact Sz hcx [] [6, 7, 8] [62, 10, 0, 1, 2] [] (Zr (Fr (Fp 6 (.intss []) (Rv hcx (congrArg AV.tup (q0c (congrArg AV.intss (show [] = (Cn.q0i l k next).1 from (by first | (rw [hr]; done) | (rw [hr, ← hil]; done)))) (q0c (congrArg AV.int (show 0 = (Cn.q0i l k next).2.1 from (by first | (rw [hr]; done) | (rw [hr, ← hil]; done)))) (q0c (congrArg AV.int (show 2 = (Cn.q0i l k next).2.2 from (by first | (rw [hr]; done) | (rw [hr, ← hil]; done)))) rfl)))) [] rfl))))
     ·
      have hr := Cn.x4m h0 h27 h31 h3
      refine Zk (Ft (Sz hcx [(1000, .to 612)] [12] [62] [] (Zs (Zv 612 0 701 22 (.intss []) (Tq hcx [] [13, 14] [] [] [(True)] ?_ (Ft (Zs (Sz hcx [] [65, 66] [10] [] (Zb (Zn [(612, .to 612), (701, .to 701)] [0, 1, 2, 12, 13, 14, 65, 66] (Lp (X := Nat) (fun x0 => x0 ≤ l.length) (fun x0 => ([(0, .ints l), (1, .int k), (2, .int ((Cn.cAb k next x0).2.2)), (12, .loc 612 0), (13, .clo 1000163 [.loc 612 0]), (14, .clo 185 [.pto [.int ((Cn.cAb k next x0).2.1)], .pto [.int ((Cn.cAb k next x0).1)]]), (65, .int (l.length : Int)), (66, .int (x0 : Int))], [(612, .box [.row 701]), (701, .row 22 (.intss (Cn.q3l l k next x0)))])) (fun x0 => l.length - x0) (0) ?_ (Ex 66 (congrArg AV.int (show 0 = (0 : Int) from (by first | rfl | omega | (simp; done)))) Eb) Hb fun i hI => ?_)))))))))))
      ·
       refine ap ?_ az
       exact True.intro
      ·
       show 0 ≤ l.length
       omega
      ·
       replace hI : i ≤ l.length := hI
       obtain ⟨c1, c2, c3, c4, c5, c6⟩ := Cn.j8w (k := k) (next := next) (by omega) ⟨g1, g2⟩ i (by omega)
       have hcl := Cn.z3b (l := l) (k := k) (next := next) (by omega) i
       have hbi := hb i
       refine Sz hcx [] [67] [] [] (Zs (Zj (p := ((i : Int) < (l.length : Int))) (fun h4 => ?_) fun h4 => ?_))
       ·
        refine Zk (Ft (Zs (Zb (Sz hcx [] [15] [67] [] (Sq hcx [] [16] [] [] [Fit ((i : Int) + 1)] ?_ (Sq hcx [] [17] [] [] [(True)] ?_ (Zs (Sz hcx [] [18] [] [] (Zb (Lp (X := Nat) (fun x0 => (x0 : Int) ≤ (min ((i : Int) + 1) k)) (fun x0 => ([(0, .ints l), (1, .int k), (2, .int ((Cn.cAb k next i).2.2)), (12, .loc 612 0), (13, .clo 1000163 [.loc 612 0]), (14, .clo 185 [.pto [.int ((Cn.cAb k next i).2.1)], .pto [.int ((Cn.cAb k next i).1)]]), (15, .int (i : Int)), (16, .int (min ((i : Int) + 1) k)), (17, .clo 185 [.pto [.int (min ((i : Int) + 1) k)], .pto [.int ((Cn.cAb k next i).2.2)]]), (18, .int ((x0 : Int) + 1)), (65, .int (l.length : Int)), (66, .int (i : Int))], [(612, .box [.row 701]), (701, .row 22 (.intss (Cn.q3l l k next i ++ Cn.q4x (Cn.cAb k next i).2.2 (min ((i : Int) + 1) k) (Cn.cAb k next i).1 (Cn.cAb k next i).2.1 (l.getD i 0) x0)))])) (fun x0 => (min ((i : Int) + 1) k).toNat - x0) (0) ?_ (Ex 18 (congrArg AV.int (show 1 = ((0 : Int) + 1) from (by omega))) Eb) (Hx 701 (congrArg (fun x => q0d.row 22 (.intss x)) (show (Cn.q3l l k next i) = (Cn.q3l l k next i ++ Cn.q4x (Cn.cAb k next i).2.2 (min ((i : Int) + 1) k) (Cn.cAb k next i).1 (Cn.cAb k next i).2.1 (l.getD i 0) 0) from (by exact (List.append_nil _).symm))) Hb) fun j hI => ?_))))))))))
        ·
         refine ap ?_ az
         omega
        ·
         refine ap ?_ az
         exact True.intro
        ·
         show (0 : Int) ≤ (min ((i : Int) + 1) k)
         omega
        ·
         try dsimp only at hI
         have hrl := Cn.z2v (Cn.cAb k next i).2.2 (min ((i : Int) + 1) k) (Cn.cAb k next i).1 (Cn.cAb k next i).2.1 (l.getD i 0) j
         have hv1 := Cn.k0r (b := (Cn.cAb k next i).2.2) (m := (min ((i : Int) + 1) k)) (j := (j : Int) + 1) (B := 100000000) (by omega) (by omega) (by omega)
         refine Zs (Sz hcx [] [78] [] [] (Zj (p := (((j : Int) + 1) ≤ (min ((i : Int) + 1) k))) (fun h5 => ?_) fun h5 => ?_))
         ·
          have h78 := h5
          refine Zk (Ft (Zs (Zb (Sd hcx hmx [0, 0, 0, 6, 14, 0, 0, 110, 0, 0, 768, 1792, 4094, 8191] [(1013, .to 294), (612, .to 612)] [] [78] [701] [(-1000000000 ≤ ((Cn.cAb k next i).2.2) ∧ ((Cn.cAb k next i).2.2) ≤ 1000000000 ∧ -1000000000 ≤ ((j : Int) + 1) ∧ ((j : Int) + 1) ≤ 1000000000), Fit (-(Cn.q2f ((Cn.cAb k next i).2.2) (min ((i : Int) + 1) k) ((j : Int) + 1))), (-1000000000 ≤ ((Cn.cAb k next i).1) ∧ ((Cn.cAb k next i).1) ≤ 1000000000 ∧ -1000000000 ≤ ((j : Int) + 1) ∧ ((j : Int) + 1) ≤ 1000000000), ((0 : Int) ≤ (i : Int) ∧ (i : Int) < (l.length : Int)), ([(-(Cn.q2f ((Cn.cAb k next i).2.2) (min ((i : Int) + 1) k) ((j : Int) + 1))), (Cn.q2f ((Cn.cAb k next i).1) ((Cn.cAb k next i).2.1) ((j : Int) + 1)), (l.getD i 0)].length ≤ 1000 ∧ (Cn.q3l l k next i ++ Cn.q4x (Cn.cAb k next i).2.2 (min ((i : Int) + 1) k) (Cn.cAb k next i).1 (Cn.cAb k next i).2.1 (l.getD i 0) j).length ≤ 1000000000000)] ?_ (Sz hcx [] [96] [] [] (Zj (p := (((j : Int) + 1) > 1)) (fun h6 => ?_) fun h6 => ?_))))))
          ·
           refine ap ?_ (ap ?_ (ap ?_ (ap ?_ (ap ?_ az)))) <;>
            first | omega | (simp only [List.length_cons, List.length_nil, List.length_append, List.length_map, List.length_set, List.length_replicate]; omega)
          ·
           have h96 := h6
           refine Tq hcx [(1013, .to 310), (612, .to 612)] [] [96] [294] [(-1000000000 ≤ ((Cn.cAb k next i).2.2) ∧ ((Cn.cAb k next i).2.2) ≤ 1000000000 ∧ -1000000000 ≤ ((j : Int) + 1) ∧ ((j : Int) + 1) ≤ 1000000000), Fit (-(Cn.q2f ((Cn.cAb k next i).2.2) (min ((i : Int) + 1) k) ((j : Int) + 1))), (-1000000000 ≤ ((Cn.cAb k next i).1) ∧ ((Cn.cAb k next i).1) ≤ 1000000000 ∧ -1000000000 ≤ ((j : Int) + 1) ∧ ((j : Int) + 1) ≤ 1000000000), Fit (((j : Int) + 1) - 1), (-1000000000 ≤ ((Cn.cAb k next i).1) ∧ ((Cn.cAb k next i).1) ≤ 1000000000 ∧ -1000000000 ≤ (((j : Int) + 1) - 1) ∧ (((j : Int) + 1) - 1) ≤ 1000000000), ([(-(Cn.q2f ((Cn.cAb k next i).2.2) (min ((i : Int) + 1) k) ((j : Int) + 1))), (Cn.q2f ((Cn.cAb k next i).1) ((Cn.cAb k next i).2.1) ((j : Int) + 1)), (Cn.q2f ((Cn.cAb k next i).1) ((Cn.cAb k next i).2.1) (((j : Int) + 1) - 1))].length ≤ 1000 ∧ ((Cn.q3l l k next i ++ Cn.q4x (Cn.cAb k next i).2.2 (min ((i : Int) + 1) k) (Cn.cAb k next i).1 (Cn.cAb k next i).2.1 (l.getD i 0) j) ++ [Cn.nz [(-(Cn.q2f ((Cn.cAb k next i).2.2) (min ((i : Int) + 1) k) ((j : Int) + 1))), (Cn.q2f ((Cn.cAb k next i).1) ((Cn.cAb k next i).2.1) ((j : Int) + 1)), (l.getD i 0)]]).length ≤ 1000000000000)] ?_ (Fb (Ft (Tq hcx [] [18] [] [] [Fit (((j : Int) + 1) + 1)] ?_ (Fn [(612, .to 612), (310, .to 701)] [0, 1, 2, 12, 13, 14, 15, 16, 17, 18, 65, 66] (Lr (j + 1) ?_ ?_ (Ex 18 (congrArg AV.int (show (((j : Int) + 1) + 1) = (((j + 1) : Int) + 1) from (by omega))) Eb) (Hx 701 (congrArg (fun x => q0d.row 22 (.intss x)) (show (((Cn.q3l l k next i ++ Cn.q4x (Cn.cAb k next i).2.2 (min ((i : Int) + 1) k) (Cn.cAb k next i).1 (Cn.cAb k next i).2.1 (l.getD i 0) j) ++ [Cn.nz [(-(Cn.q2f ((Cn.cAb k next i).2.2) (min ((i : Int) + 1) k) ((j : Int) + 1))), (Cn.q2f ((Cn.cAb k next i).1) ((Cn.cAb k next i).2.1) ((j : Int) + 1)), (l.getD i 0)]]) ++ [Cn.nz [(-(Cn.q2f ((Cn.cAb k next i).2.2) (min ((i : Int) + 1) k) ((j : Int) + 1))), (Cn.q2f ((Cn.cAb k next i).1) ((Cn.cAb k next i).2.1) ((j : Int) + 1)), (Cn.q2f ((Cn.cAb k next i).1) ((Cn.cAb k next i).2.1) (((j : Int) + 1) - 1))]]) = (Cn.q3l l k next i ++ Cn.q4x (Cn.cAb k next i).2.2 (min ((i : Int) + 1) k) (Cn.cAb k next i).1 (Cn.cAb k next i).2.1 (l.getD i 0) (j + 1)) from (by first | exact Cn.k8e h96 | exact Cn.k8x h96))) Hb))))))
           ·
            refine ap ?_ (ap ?_ (ap ?_ (ap ?_ (ap ?_ (ap ?_ az))))) <;>
             first | omega | (simp only [List.length_cons, List.length_nil, List.length_append, List.length_map, List.length_set, List.length_replicate]; omega)
           ·
            refine ap ?_ az
            omega
           ·
            try dsimp only
            omega
           ·
            try dsimp only
            omega
          ·
           have h96 := h6
           refine Zk (Fb (Ft (Tq hcx [] [18] [96] [] [Fit (((j : Int) + 1) + 1)] ?_ (Fn [(612, .to 612), (294, .to 701)] [0, 1, 2, 12, 13, 14, 15, 16, 17, 18, 65, 66] (Lr (j + 1) ?_ ?_ (Ex 18 (congrArg AV.int (show (((j : Int) + 1) + 1) = (((j + 1) : Int) + 1) from (by omega))) Eb) (Hx 701 (congrArg (fun x => q0d.row 22 (.intss x)) (show ((Cn.q3l l k next i ++ Cn.q4x (Cn.cAb k next i).2.2 (min ((i : Int) + 1) k) (Cn.cAb k next i).1 (Cn.cAb k next i).2.1 (l.getD i 0) j) ++ [Cn.nz [(-(Cn.q2f ((Cn.cAb k next i).2.2) (min ((i : Int) + 1) k) ((j : Int) + 1))), (Cn.q2f ((Cn.cAb k next i).1) ((Cn.cAb k next i).2.1) ((j : Int) + 1)), (l.getD i 0)]]) = (Cn.q3l l k next i ++ Cn.q4x (Cn.cAb k next i).2.2 (min ((i : Int) + 1) k) (Cn.cAb k next i).1 (Cn.cAb k next i).2.1 (l.getD i 0) (j + 1)) from (by first | exact Cn.k8e h96 | exact Cn.k8x h96))) Hb))))))
           ·
            refine ap ?_ az
            omega
           ·
            try dsimp only
            omega
           ·
            try dsimp only
            omega
         ·
          have h78 := h5
          refine Ze (Fe (Fe (Fs (Ft (Tq hcx [] [2, 14] [78, 15, 16, 17, 18] [] [Fit ((Cn.cAb k next i).2.2 + (min ((i : Int) + 1) k))] ?_ (Fb (Ft (Tq hcx [] [66] [] [] [Fit ((i : Int) + 1)] ?_ (Lr (i + 1) ?_ ?_ (Ex 66 (congrArg AV.int (show ((i : Int) + 1) = ((i + 1) : Int) from (by first | rfl | omega | (simp; done)))) Eb) (Hx 701 (congrArg (fun x => q0d.row 22 (.intss x)) (show (Cn.q3l l k next i ++ Cn.q4x (Cn.cAb k next i).2.2 (min ((i : Int) + 1) k) (Cn.cAb k next i).1 (Cn.cAb k next i).2.1 (l.getD i 0) j) = (Cn.q3l l k next (i + 1)) from (by exact Cn.x0y (by omega)))) Hb))))))))))
          ·
           refine ap ?_ az
           omega
          ·
           refine ap ?_ az
           omega
          ·
           show (i + 1) ≤ l.length
           omega
          ·
           show l.length - (i + 1) < l.length - i
           omega
       ·
        have h67 := h4
        have hil : i = l.length := by omega
        refine Ze (Fe (Fe (Fs (Ft (Sq hcx [(1005, .to 321), (612, .to 612)] [] [67, 0, 1, 13, 14, 65, 66] [701] [(-1000000000 ≤ ((Cn.cAb k next i).1) ∧ ((Cn.cAb k next i).1) ≤ 1000000000 ∧ -1000000000 ≤ k ∧ k ≤ 1000000000), ([(Cn.q2f ((Cn.cAb k next i).1) ((Cn.cAb k next i).2.1) k)].length ≤ 1000 ∧ (Cn.q3l l k next i).length ≤ 1000000000000)] ?_ (Sz hcx [] [6, 7, 8] [2, 12] [612] (Zr (Fn [(321, .frz)] [6, 7, 8] (Rv hcx (congrArg AV.tup (q0c (congrArg AV.intss (show ((Cn.q3l l k next i) ++ [Cn.nz [(Cn.q2f ((Cn.cAb k next i).1) ((Cn.cAb k next i).2.1) k)]]) = (Cn.q0i l k next).1 from (by first | (rw [hr]; done) | (rw [hr, ← hil]; done)))) (q0c (congrArg AV.int (show (Cn.cAb k next i).2.2 = (Cn.q0i l k next).2.1 from (by first | (rw [hr]; done) | (rw [hr, ← hil]; done)))) (q0c (congrArg AV.int (show 0 = (Cn.q0i l k next).2.2 from (by first | (rw [hr]; done) | (rw [hr, ← hil]; done)))) rfl)))) [] rfl)))))))))
        ·
         refine ap ?_ (ap ?_ az) <;>
          first | omega | (simp only [List.length_cons, List.length_nil, List.length_append, List.length_map, List.length_set, List.length_replicate]; omega)
 ·
  cases hσ
end Go.Proofs.YtkkapbnopmmmjaaGreatDoor.En
