/- The library's IndexFunc and ContainsFunc at ints, for whatever predicate that only reads; small words on worlds. -/
import Derived.Test.YtiokflebeojokaaGreatDoorProg
import Derived.Test.YtiokflebeojokaaGreatDoorMem
import Derived.Deep.QuietTactic
import Derived.BigQuiet
import Derived.Lib.Hide
import Derived.Outline
import Derived.Shelf.Abstract
namespace Go.Proofs.YtiokflebeojokaaGreatDoor
open Go.RowKit Go.Shelf

theorem info_int : (Tryz.prog.info? 3).map (fun i => (i.zero, i.size, i.bytes)) = some (some (.int .i64 0), 1, 8) := by kernel_rfl
theorem below_up {w w' w'' : World} (h : Below w.heap.size w w') (h' : Below w'.heap.size w' w'') : Below w.heap.size w w'' := h.trans ⟨h'.os, h'.tape, h'.output, h'.size, fun i hi => h'.block i (Nat.lt_of_lt_of_le hi h.size)⟩
theorem RdL.up {w w' : World} {A : Option Addr} {xs : List (List Int)} (h : RdL (· < w.heap.size) w A xs) (hb : Below w.heap.size w w') : RdL (· < w'.heap.size) w' A xs := (h.below hb).mono (fun _ h => Nat.lt_of_lt_of_le h hb.size)
theorem Rd.up {α : Type} {enc : α → Value} {w w' : World} {A : Option Addr} {xs : List α} (h : Rd enc (· < w.heap.size) w A xs) (hb : Below w.heap.size w w') : Rd enc (· < w'.heap.size) w' A xs := (h.below hb).mono (fun _ h => Nat.lt_of_lt_of_le h hb.size)
theorem below1 (w : World) (o : Obj) : Below w.heap.size w (w.alloc o) := (Below.refl _ _).alloc (Nat.le_refl _) _
theorem below2 (w : World) (o o2 : Obj) : Below w.heap.size w ((w.alloc o).alloc o2) := below_up (below1 w o) (below1 _ o2)
theorem below3 (w : World) (o o2 o3 : Obj) : Below w.heap.size w (((w.alloc o).alloc o2).alloc o3) := below_up (below2 w o o2) (below1 _ o3)
theorem below_n {B : Nat} {w w' : World} (h : Below B w w') (n : Nat) : Below B w (w'.drewN n) := ⟨h.os, h.tape, h.output, h.size, h.block⟩
theorem blk2 (w : World) (o : Obj) (t : TypeId) (ys : Array Value) : Blk ((w.alloc o).alloc (.cells ys t)) (w.heap.size + 1) t ys := by simpa using Blk.new (w.alloc o) t ys
theorem blk3 (w : World) (o o2 : Obj) (t : TypeId) (ys : Array Value) : Blk (((w.alloc o).alloc o2).alloc (.cells ys t)) (w.heap.size + 1 + 1) t ys := by simpa using Blk.new ((w.alloc o).alloc o2) t ys
theorem rd_blk {D : Nat → Prop} {w : World} {g : Nat} {t : TypeId} {ys : Array Value} {xs : List Int} (h : Blk w g t ys) (hy : ys = (xs.map I64).toArray) (hg : D g) : Rd I64 D w (some ⟨g, 0, none⟩) xs := fun _ =>
  ⟨g, 0, rfl, hg, fun j hj => by rw [h.cell, hy]; simp [hj]⟩
theorem drew_one {w wr : World} (h : ∃ q, wr = w.drewN q) (n : Nat) : ∃ q, wr.drewN n = w.drewN q := by
  obtain ⟨q, rfl⟩ := h
  exact ⟨q + n, World.drewN_drewN _ _ _⟩
theorem drew_two {w wr : World} (h : ∃ q, wr = w.drewN q) (n m : Nat) : ∃ q, (wr.drewN n).drewN m = w.drewN q := drew_one (drew_one h n) m
theorem rd_drew {α : Type} {enc : α → Value} {D : Nat → Prop} {w wr : World} {A : Option Addr} {xs : List α} (h : ∃ q, wr = w.drewN q) (hr : Rd enc D w A xs) : Rd enc D wr A xs := by
  obtain ⟨q, rfl⟩ := h
  exact hr
theorem cell_q {w wr : World} {p : Addr} {v : Value} (h : ∃ q, wr = w.drewN q) (hc : w.cell? p = some v) : wr.cell? p = some v := by
  obtain ⟨q, rfl⟩ := h
  exact hc
theorem below_q {B : Nat} {w w' wr : World} (h : Below B w w') (hq : ∃ q, wr = w'.drewN q) : Below B w wr := by
  obtain ⟨q, rfl⟩ := hq
  exact below_n h q
theorem drew_trans {w wr wx : World} (h : ∃ q, wr = w.drewN q) (h' : ∃ q, wx = wr.drewN q) : ∃ q, wx = w.drewN q := by
  obtain ⟨q, rfl⟩ := h
  obtain ⟨p, rfl⟩ := h'
  exact ⟨q + p, World.drewN_drewN _ _ _⟩
theorem ret_eq {x y : Int} (h : x = y) : Ending.returned (I64 x) = Ending.returned (I64 y) := by rw [h]
/-- a slice of the call's own has grown by one element -/
theorem own_push {wo wr w5 : World} {cvv : Value} {o : Obj} {g2 o2 n cp2 : Nat} (hg : ∀ g, cvv.ownBlock = some g → wo.heap.size ≤ g) (hb : Below wo.heap.size wo wr) (hg5 : (wr.alloc o).grownBy w5 cvv.ownBlock) (hat : cvv.ownBlock = some g2 ∨ g2 = wr.heap.size + 1) :
    (∀ g, (Value.slice (some ⟨g2, o2, none⟩) n cp2).ownBlock = some g → wo.heap.size ≤ g) ∧ Below wo.heap.size wo w5 := by
  refine ⟨fun g e => ?_, ?_⟩
  · have e : g2 = g := by simpa [Value.ownBlock] using e
    subst e
    rcases hat with e | e
    · exact hg _ e
    · have := hb.size
      omega
  · exact (hb.alloc hb.size o).grown hg5 (Nat.le_trans hb.size (by simp)) (fun g e => hg g e)

/-- what a predicate closure does: it says pd x, and only reads -/
def Preds (f : Nat) (lb : List Value) (pd : Int → Bool) (l : List Int) (w : World) : Prop :=
  ∀ x ∈ l, ∀ n, Calls Tryz.prog f (I64 x :: lb).toArray (w.drewN n) fun e w' => e = .returned (.bool (pd x)) ∧ ∃ q, w' = w.drewN q

set_option maxHeartbeats 800000 in
theorem if_any {D : Nat → Prop} (f : Nat) (lb : List Value) (pd : Int → Bool) (A : Option Addr) (c : Nat) (l : List Int) (w : World) (heg : ∀ (args : Array Value) (w : World), (callFunc f args).run Tryz.prog w = .ok (.enter f args) w)
    (hp : Preds f lb pd l w) (hr : Rd I64 D w A l) (hl : l.length ≤ maxLen) :
    Calls Tryz.prog 73 #[.slice A l.length c, .func (.func f) #[] lb.toArray] w fun e w' => (∃ i : Int, e = .returned (I64 i) ∧ (decide (0 ≤ i) = l.any pd)) ∧ ∃ q, w' = w.drewN q := by
  unfold maxLen at hl
  have HP := Lib.hid hp
  have HR := Lib.hid hr
  clear hp hr
  go_enter Tryz.func73, Tryz.ntmps73
  go_wp2_with fail
  go_loopw [8] (fun i wr => ∃ k q : Nat, i = .int .i64 k ∧ k ≤ l.length ∧ wr = w.drewN q ∧ (l.take k).any pd = false) (fun i _ => l.length - (intOf i).toNat)
  case atStart => exact ⟨0, 0, rfl, Nat.zero_le _, rfl, rfl⟩
  case round =>
    obtain ⟨k, q, rfl, hk, hw, ht⟩ := hrel
    have HW := Lib.hid hw
    have HT := Lib.hid ht
    clear ht hw
    by_cases hlt : k < l.length
    · obtain ⟨a, oa, rfl, _, ca⟩ := (show Rd I64 D wr A l by rw [HW.out]; exact HR.out).at_ hlt
      have hpx := HP.out l[k] (List.getElem_mem hlt) q
      have htk : (l.take (k + 1)).any pd = pd l[k] := by rw [List.take_succ_eq_append_getElem hlt, List.any_append, HT.out]; simp
      have hyes : pd l[k] = true → l.any pd = true := fun h => List.any_eq_true.2 ⟨l[k], List.getElem_mem hlt, h⟩
      rw [← HW.out] at hpx
      generalize l[k] = x at ca hpx htk hyes
      have HPX := Lib.hid hpx
      have HTK := Lib.hid htk
      have HY := Lib.hid hyes
      clear hpx htk hyes
      generalize hb : pd x = b at HPX HTK HY
      have HBB := Lib.hid hb
      clear hb
      go_wp2_with fail
      refine HPX.out.mono ?_
      rintro e w3 ⟨rfl, q3, hq3⟩
      have HQ3 := Lib.hid hq3
      clear hq3
      cases b
      · go_wp2_with fail
        go_roundw
        case rel => exact ⟨k + 1, q3, by go_num, by omega, HQ3.out, HTK.out⟩
        case measure => simp [intOf]; omega
      · go_wp2_with fail
        go_ret
        exact ⟨⟨_, rfl, by have h := HY.out (by simp); rw [h]; simp⟩, q3, HQ3.out⟩
    · go_wp2_with fail
      go_ret
      refine ⟨⟨_, rfl, ?_⟩, q, HW.out⟩
      have h2 := HT.out
      rw [List.take_of_length_le (by omega)] at h2
      rw [h2]; rfl

set_option maxHeartbeats 400000 in
theorem cf_any {D : Nat → Prop} (f : Nat) (lb : List Value) (pd : Int → Bool) (A : Option Addr) (c : Nat) (l : List Int) (w : World) (heg : ∀ (args : Array Value) (w : World), (callFunc f args).run Tryz.prog w = .ok (.enter f args) w)
    (hp : Preds f lb pd l w) (hr : Rd I64 D w A l) (hl : l.length ≤ maxLen) :
    Calls Tryz.prog 47 #[.slice A l.length c, .func (.func f) #[] lb.toArray] w fun e w' => e = .returned (.bool (l.any pd)) ∧ ∃ q, w' = w.drewN q := by
  have H := Lib.hid (if_any f lb pd A c l w heg hp hr hl)
  clear heg hp hr hl
  go_enter Tryz.func47, Tryz.ntmps47
  go_wp2_with fail
  refine H.out.mono ?_
  rintro e w3 ⟨⟨i, rfl, hi⟩, q3, hq3⟩
  have HI := Lib.hid hi
  have HQ3 := Lib.hid hq3
  clear hi hq3
  go_wp2_with fail
  go_ret
  exact ⟨by simp [← HI.out], q3, HQ3.out⟩
end Go.Proofs.YtiokflebeojokaaGreatDoor
