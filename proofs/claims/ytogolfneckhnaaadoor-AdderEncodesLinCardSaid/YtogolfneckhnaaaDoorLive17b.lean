/- The sanity check of layer 17 returns true, in every world in which the bit table lies. -/
import Derived.Test.YtogolfneckhnaaaDoorLive17
namespace Go.Proofs.YtogolfneckhnaaaDoor
open Go.RowKit Go.Shelf

theorem RdL.up {w w' : World} {A : Option Addr} {xs : List (List Int)} (h : RdL (· < w.heap.size) w A xs) (hb : Below w.heap.size w w') : RdL (· < w'.heap.size) w' A xs := (h.below hb).mono (fun _ h => Nat.lt_of_lt_of_le h hb.size)
theorem Rd.up {α : Type} {enc : α → Value} {w w' : World} {A : Option Addr} {xs : List α} (h : Rd enc (· < w.heap.size) w A xs) (hb : Below w.heap.size w w') : Rd enc (· < w'.heap.size) w' A xs := (h.below hb).mono (fun _ h => Nat.lt_of_lt_of_le h hb.size)
theorem below1 (w : World) (o : Obj) : Below w.heap.size w (w.alloc o) := (Below.refl _ _).alloc (Nat.le_refl _) _
theorem below2 (w : World) (o o2 : Obj) : Below w.heap.size w ((w.alloc o).alloc o2) := below_up (below1 w o) (below1 _ o2)
theorem below3 (w : World) (o o2 o3 : Obj) : Below w.heap.size w (((w.alloc o).alloc o2).alloc o3) := below_up (below2 w o o2) (below1 _ o3)
theorem below_n {B : Nat} {w w' : World} (h : Below B w w') (n : Nat) : Below B w (w'.drewN n) := ⟨h.os, h.tape, h.output, h.size, h.block⟩
theorem blk2 (w : World) (o : Obj) (t : TypeId) (ys : Array Value) : Blk ((w.alloc o).alloc (.cells ys t)) (w.heap.size + 1) t ys := by simpa using Blk.new (w.alloc o) t ys
theorem blk3 (w : World) (o o2 : Obj) (t : TypeId) (ys : Array Value) : Blk (((w.alloc o).alloc o2).alloc (.cells ys t)) (w.heap.size + 1 + 1) t ys := by simpa using Blk.new ((w.alloc o).alloc o2) t ys

set_option maxRecDepth 100000 in
set_option maxHeartbeats 1600000 in
theorem live_any (w : World) (hT : TabAt w) : Calls Tryd.prog 12 #[] w fun e w' => e = .returned (.bool true) ∧ Below w.heap.size w w' := by
  have HT := Lib.hid hT
  clear hT
  go_enter Tryd.func12, Tryd.ntmps12
  go_wp2_with fail
  refine (sum_ex1 w.heap.size (w.heap.size + 1) _ ?s1a ?s1b ?s1c).mono ?_
  case s1a => exact (Blk.new w _ _).alloc _
  case s1b => exact blk2 w _ _ _
  case s1c => exact HT.out.below (below2 w _ _)
  rintro e w1 ⟨A, cA, C, cC, rfl, r1, b1⟩
  have B1 := Lib.hid (below_up (below2 w _ _) b1)
  have R1 := Lib.hid r1
  clear r1 b1
  go_wp2_with fail
  refine (least_ex A cA 2 [[4]] 1 _ R1.out (HT.out.below B1.out) ex_least2 rfl).mono ?_
  rintro e w2 ⟨C2, c2, rfl, r2, b2⟩
  have B2 := Lib.hid (below_up B1.out b2)
  have R2 := Lib.hid (And.intro (R1.out.up b2) r2)
  clear R1 B1 r2 b2
  go_wp2_with fail
  refine (least_ex A cA 1 [[3, 4]] 1 _ R2.out.1 (HT.out.below B2.out) ex_least1 rfl).mono ?_
  rintro e w3 ⟨C3, c3, rfl, r3, b3⟩
  have B3 := Lib.hid (below_up B2.out b3)
  have R3 := Lib.hid (And.intro (R2.out.1.up b3) (And.intro (R2.out.2.up b3) r3))
  clear R2 B2 r3 b3
  go_wp2_with fail
  refine (least_ex A cA 3 [[3], [4]] 2 _ R3.out.1 (HT.out.below B3.out) ex_least3 rfl).mono ?_
  rintro e w4 ⟨C4, c4, rfl, r4, b4⟩
  have B4 := Lib.hid (below_up B3.out b4)
  have R4 := Lib.hid (And.intro (R3.out.1.up b4) (And.intro (R3.out.2.1.up b4) (And.intro (R3.out.2.2.up b4) r4)))
  clear R3 B3 r4 b4
  go_wp2_with fail
  refine (least_ex A cA 4 [[]] 1 _ R4.out.1 (HT.out.below B4.out) ex_least4 rfl).mono ?_
  rintro e w5 ⟨C5, c5, rfl, r5, b5⟩
  have B5 := Lib.hid (below_up B4.out b5)
  have R5 := Lib.hid (And.intro (R4.out.1.up b5) (And.intro (R4.out.2.1.up b5) (And.intro (R4.out.2.2.1.up b5) (And.intro (R4.out.2.2.2.up b5) r5))))
  clear R4 B4 r5 b5
  go_wp2_with fail
  refine (sum_ex2 w5.heap.size (w5.heap.size + 1) _ ?s2a ?s2b ?s2c).mono ?_
  case s2a => exact (Blk.new w5 _ _).alloc _
  case s2b => exact blk2 w5 _ _ _
  case s2c => exact HT.out.below (below_up B5.out (below2 w5 _ _))
  rintro e w6 ⟨rfl, b6⟩
  have b6' := below_up (below2 w5 _ _) b6
  have B6 := Lib.hid (below_up B5.out b6')
  have R6 := Lib.hid (And.intro (R5.out.1.up b6') (And.intro (R5.out.2.1.up b6') (And.intro (R5.out.2.2.1.up b6') (And.intro (R5.out.2.2.2.1.up b6') (R5.out.2.2.2.2.up b6')))))
  clear R5 B5 b6 b6'
  go_wp2_with fail
  refine (sum_ex3 _ (HT.out.below B6.out)).mono ?_
  rintro e w7 ⟨A7, a7, C7, c7, rfl, b7⟩
  have B7 := Lib.hid (below_up B6.out b7)
  have R7 := Lib.hid (And.intro (R6.out.1.up b7) (And.intro (R6.out.2.1.up b7) (And.intro (R6.out.2.2.1.up b7) (And.intro (R6.out.2.2.2.1.up b7) (R6.out.2.2.2.2.up b7)))))
  clear R6 B6 b7
  go_wp2_with fail
  refine (lists_true (D := fun _ => True) C2 (some ⟨w7.heap.size + 1, 0, none⟩) c2 1 1 [[4]] _ ?l1a ?l1b rfl (by decide) (by decide)).mono ?_
  case l1a => exact (R7.out.2.1.up (below2 w7 _ _)).mono (fun _ _ => trivial)
  case l1b => exact rdl_one (blk2 w7 _ _ _) ((Blk.new w7 _ _).alloc _) rfl rfl trivial trivial
  rintro e w8 ⟨rfl, q8, hq8⟩
  have b8 : Below w7.heap.size w7 w8 := by rw [hq8]; exact below_n (below2 w7 _ _) _
  have B8 := Lib.hid (below_up B7.out b8)
  have R8 := Lib.hid (And.intro (R7.out.1.up b8) (And.intro (R7.out.2.2.1.up b8) (And.intro (R7.out.2.2.2.1.up b8) (R7.out.2.2.2.2.up b8))))
  clear R7 B7 b8 hq8
  go_wp2_with fail
  refine (lists_true (D := fun _ => True) C3 (some ⟨w8.heap.size + 1, 0, none⟩) c3 1 1 [[3, 4]] _ ?l2a ?l2b rfl (by decide) (by decide)).mono ?_
  case l2a => exact (R8.out.2.1.up (below2 w8 _ _)).mono (fun _ _ => trivial)
  case l2b => exact rdl_one (blk2 w8 _ _ _) ((Blk.new w8 _ _).alloc _) rfl rfl trivial trivial
  rintro e w9 ⟨rfl, q9, hq9⟩
  have b9 : Below w8.heap.size w8 w9 := by rw [hq9]; exact below_n (below2 w8 _ _) _
  have B9 := Lib.hid (below_up B8.out b9)
  have R9 := Lib.hid (And.intro (R8.out.1.up b9) (And.intro (R8.out.2.2.1.up b9) (R8.out.2.2.2.up b9)))
  clear R8 B8 b9 hq9
  go_wp2_with fail
  refine (lists_true (D := fun _ => True) C4 (some ⟨w9.heap.size + 1 + 1, 0, none⟩) c4 2 2 [[3], [4]] _ ?l3a ?l3b rfl (by decide) (by decide)).mono ?_
  case l3a => exact (R9.out.2.1.up (below3 w9 _ _ _)).mono (fun _ _ => trivial)
  case l3b => exact rdl_two (blk3 w9 _ _ _ _) (((Blk.new w9 _ _).alloc _).alloc _) rfl rfl ((blk2 w9 _ _ _).alloc _) rfl rfl trivial trivial trivial
  rintro e w10 ⟨rfl, q10, hq10⟩
  have b10 : Below w9.heap.size w9 w10 := by rw [hq10]; exact below_n (below3 w9 _ _ _) _
  have B10 := Lib.hid (below_up B9.out b10)
  have R10 := Lib.hid (And.intro (R9.out.1.up b10) (R9.out.2.2.up b10))
  clear R9 B9 b10 hq10
  go_wp2_with fail
  refine (lists_true (D := fun _ => True) C5 (some ⟨w10.heap.size + 1, 0, none⟩) c5 1 1 [[]] _ ?l4a ?l4b rfl (by decide) (by decide)).mono ?_
  case l4a => exact (R10.out.2.up (below2 w10 _ _)).mono (fun _ _ => trivial)
  case l4b => exact rdl_one (blk2 w10 _ _ _) ((Blk.new w10 _ _).alloc _) rfl rfl trivial trivial
  rintro e w11 ⟨rfl, q11, hq11⟩
  have b11 : Below w10.heap.size w10 w11 := by rw [hq11]; exact below_n (below2 w10 _ _) _
  have B11 := Lib.hid (below_up B10.out b11)
  have R11 := Lib.hid (R10.out.1.up b11)
  clear R10 B10 b11 hq11
  go_wp2_with fail
  refine (ints_true (D := fun _ => True) A (some ⟨w11.heap.size, 0, none⟩) cA 2 2 [3, 4] _ ?i1a ?i1b rfl (by decide)).mono ?_
  case i1a => exact (R11.out.up (below1 w11 _)).mono (fun _ _ => trivial)
  case i1b => exact rd_blk (Blk.new w11 _ _) rfl trivial
  rintro e w12 ⟨rfl, q12, hq12⟩
  have b12 : Below w11.heap.size w11 w12 := by rw [hq12]; exact below_n (below1 w11 _) _
  have B12 := Lib.hid (below_up B11.out b12)
  clear R11 B11 b12 hq12
  go_wp2_with fail
  go_ret
  exact ⟨rfl, B12.out⟩
end Go.Proofs.YtogolfneckhnaaaDoor
