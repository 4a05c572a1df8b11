/- The library's DeleteFunc, SortFunc, Compact and Grow at a row of ints that the call owns. -/
import Derived.Test.YtiokflebeojokaaGreatDoorShRow
import Derived.Test.YtiokflebeojokaaGreatDoorShCmp
import Derived.Test.YtiokflebeojokaaGreatDoorCnfN
import Derived.Test.YtiokflebeojokaaGreatDoorShelf3
import Derived.Test.YtiokflebeojokaaGreatDoorEngB
import Derived.Lib.RowBridge
import Derived.Shelf.SlSortCmp.NoneTotal
set_option linter.unusedSimpArgs false
set_option linter.unusedVariables false
set_option linter.unnecessarySimpa false
namespace Go.Proofs.YtiokflebeojokaaGreatDoor
open Go Go.RowKit Go.Sort Go.Shelf
open Cn (ahd sortL)

theorem one_i64 : OneCell I64 := fun _ => rfl
/-- what has become of a row that was handed in -/
def Turned (e : Nat) (w : World) (v : Value) (us : List Value) (w' : World) (v' : Value) : Prop := Own w' e v' us ∧ w.grownBy w' v.ownBlock ∧ ∀ b, v'.ownBlock = some b → v.ownBlock = some b
theorem kp_grown {w w' : World} {g : Nat} (h : Kp (fun b => b = g) w w') : w.grownBy w' (some g) := ⟨h.os, h.tape, h.output, h.size, fun k hk hn => h.block k hk (fun e => hn (by rw [e]))⟩
theorem grown_refl (w : World) (r : Option Nat) : w.grownBy w r := ⟨rfl, rfl, rfl, Nat.le_refl _, fun _ _ _ => rfl⟩
theorem put_sort {α : Type} [Inhabited α] (enc : α → Value) (w : World) (blk off q : Nat) (d : Array α) : putRow enc (Sort.ahead w q) blk off d = sortWorld enc w blk off q d #[] := by unfold sortWorld; rw [grow_empty]
/-- what a predicate is asked: in every world in which the blocks of G are as they were -/
def PredIn (f : Nat) (lb : List Value) (p : Int → Bool) (G : Nat → Prop) (w : World) : Prop :=
  ∀ (W : World) (x : Int), (∀ b, G b → W.heap[b]? = w.heap[b]?) → Calls Tryz.prog f (I64 x :: lb).toArray W fun e w' => e = .returned (.bool (p x)) ∧ W = w'
theorem ifnone_x (A : Option Addr) (c : Nat) (fv : Value) (w : World) : Calls Tryz.prog 73 #[.slice A 0 c, fv] w fun e w' => e = .returned (I64 (-1)) ∧ w = w' := by
  go_enter Tryz.func73, Tryz.ntmps73
  go_wp2_with fail
  refine wp_loop_rounds 1 ?_
  rw [rounds_succ]
  go_wp2_with fail
  go_ret
  exact ⟨rfl, rfl⟩
theorem delnone_x (A : Option Addr) (c : Nat) (fv : Value) (w : World) : Calls Tryz.prog 35 #[.slice A 0 c, fv] w fun e w' => e = .returned (.slice A 0 c) ∧ w = w' := by
  go_enter Tryz.func35, Tryz.ntmps35
  go_wp2_with fail
  refine (ifnone_x A c fv w).mono ?_
  rintro e w1 ⟨rfl, rfl⟩
  go_wp2_with fail
  go_ret
  exact ⟨rfl, rfl⟩
theorem del_own {f : Nat} {lb : List Value} {p : Int → Bool} {G : Nat → Prop} {v : Value} {xs : List Int} {w : World} (heg : ∀ (args : Array Value) (w : World), (callFunc f args).run Tryz.prog w = .ok (.enter f args) w)
    (hG : ∀ b, G b → b < w.heap.size) (hv : ∀ b, v.ownBlock = some b → ¬ G b) (hp : PredIn f lb p G w) (ho : Own w 3 v (xs.map I64)) (hl : xs.length ≤ maxLen) :
    Calls Tryz.prog 35 #[v, .func (.func f) #[] lb.toArray] w fun e w' => ∃ v', e = .returned v' ∧ Turned 3 w v ((xs.filter fun x => !p x).map I64) w' v' := by
  obtain ⟨A, cap, hform, _⟩ := ho.form
  rw [List.length_map] at hform
  subst hform
  by_cases h0 : xs.length = 0
  · obtain rfl := List.eq_nil_of_length_eq_zero h0
    refine (delnone_x A cap _ w).mono ?_
    rintro e w' ⟨rfl, rfl⟩
    exact ⟨_, rfl, ho, grown_refl _ _, fun _ h => h⟩
  · obtain ⟨g, off, rfl⟩ := ho.addr (by omega)
    obtain ⟨cur, h1, h2, h3, h4, _⟩ := ho.cur rfl
    rw [List.length_map] at h2
    have hng : ¬ G g := hv g rfl
    have hcall : ∀ (W : World) (x : Int), (∀ b, G b → W.heap[b]? = w.heap[b]?) → FnGives Tryz.prog f lb.toArray #[I64 x] (.bool (p x)) W := fun W x hW => by
      unfold FnGives
      have e : #[I64 x] ++ lb.toArray = (I64 x :: lb).toArray := by simp
      rw [e]
      refine (hp W x hW).mono ?_
      rintro e w' ⟨rfl, rfl⟩
      exact ⟨rfl, 0, rfl⟩
    have h := AnyE.slices_DeleteFunc Tryz.shDelete I64 one_i64 p f lb.toArray heg 0 (fun w => Tryz.zeroValue3 w) g off cap xs.toArray w
      (fun W x hb => hcall W x fun b hb' => hb.block b (hG b hb')) (fun n os dk x _ => hcall _ x fun b hb' => (sort_kp n dk os).block b (hG b hb') (fun e => hng (e ▸ hb')))
      (own_holds ho) (by simp; unfold maxLen at hl; omega) (by simpa using h2)
    simp only [List.size_toArray, List.toList_toArray] at h
    refine Calls.mono h ?_
    rintro e w' ⟨rfl, q, rfl⟩
    have hfl : (xs.filter fun x => !p x).length ≤ xs.length := List.length_filter_le _ _
    rw [put_sort]
    refine ⟨_, rfl, ?_, kp_grown (sort_kp _ _ _), fun b h => h⟩
    have := sort_own ho q #[] (ys := (xs.filter fun x => !p x) ++ List.replicate (xs.length - (xs.filter fun x => !p x).length) 0) (by simp; omega) (m := (xs.filter fun x => !p x).length) (by simp)
    rw [List.take_left'] at this
    · exact this
    · rfl
theorem compact_own {v : Value} {xs : List Int} {w : World} (ho : Own w 3 v (xs.map I64)) (hl : xs.length ≤ maxLen) :
    Calls Tryz.prog 44 #[v] w fun e w' => ∃ v', e = .returned v' ∧ Turned 3 w v ((Lib.compact xs).map I64) w' v' := by
  obtain ⟨A, cap, hform, _⟩ := ho.form
  rw [List.length_map] at hform
  subst hform
  by_cases h0 : xs.length = 0
  · obtain rfl := List.eq_nil_of_length_eq_zero h0
    refine (AnyG.slices_Compact_int_empty Tryz.shCompact A cap w).mono ?_
    rintro e w' ⟨rfl, rfl⟩
    exact ⟨_, rfl, ho, grown_refl _ _, fun _ h => h⟩
  · obtain ⟨g, off, rfl⟩ := ho.addr (by omega)
    obtain ⟨cur, h1, h2, h3, h4, _⟩ := ho.cur rfl
    rw [List.length_map] at h2
    refine (AnyG.slices_Compact_int Tryz.shCompact g off cap xs w (own_holds ho) (by unfold maxLen at hl; omega) h2).mono ?_
    rintro e w' ⟨rfl, q, rfl⟩
    have hfl : (Lib.compact xs).length ≤ xs.length := Lib.compact_length_le xs
    rw [put_sort]
    refine ⟨_, rfl, ?_, kp_grown (sort_kp _ _ _), fun b h => h⟩
    have := sort_own ho q #[] (ys := Lib.compact xs ++ List.replicate (xs.length - (Lib.compact xs).length) 0) (by simp; omega) (m := (Lib.compact xs).length) (by simp)
    rw [List.take_left'] at this
    · exact this
    · rfl
/-- a literal in the limits -/
abbrev Lit := { x : Int // Cn.mayP x 65536 = true }
instance : Inhabited Lit := ⟨⟨1, by decide⟩⟩
def encLit (x : Lit) : Value := I64 x.1
theorem one_lit : OneCell encLit := fun _ => rfl
theorem cmpL_lt (x y : Int) : decide (cmpL x y < 0) = ahd x y := by
  unfold cmpL cmpI ahd
  rw [decide_eq_decide]
  split <;> rename_i h <;> (repeat' split) <;> first | omega | (constructor <;> intro _ <;> omega) | skip
theorem may_bd {x : Int} (h : Cn.mayP x 65536 = true) : x ≠ 0 ∧ -65536 ≤ x ∧ x ≤ 65536 := by
  simp [Cn.mayP] at h
  omega
theorem swo_lit : SWO (ltOf fun (x y : Lit) => cmpL x.1 y.1) := by
  refine ⟨fun x => ?_, fun x y z => ?_, fun x y z => ?_⟩ <;> simp only [ltOf, cmpL_lt, ahd, decide_eq_true_eq, decide_eq_false_iff_not] <;> omega
theorem sortf_own {v : Value} {xs : List Int} {w : World} (hm : ∀ x ∈ xs, Cn.mayP x 65536 = true) (ho : Own w 3 v (xs.map I64)) (hl : xs.length ≤ 1000000000000) :
    Calls Tryz.prog 39 #[v, .func (.func 40) #[] #[]] w fun e w' => e = .returned (.tuple #[]) ∧ Own w' 3 v ((sortL xs).map I64) ∧ Kp (fun b => v.ownBlock = some b) w w' := by
  obtain ⟨A, cap, hform, _⟩ := ho.form
  rw [List.length_map] at hform
  subst hform
  by_cases h0 : xs.length = 0
  · obtain rfl := List.eq_nil_of_length_eq_zero h0
    refine (AnyF.slices_SortFunc_none (P := Tryz.prog) (ρ := Tryz.shSortF_ren) { Tryz.shSortF with } A cap _ w).mono ?_
    rintro e w' ⟨rfl, rfl⟩
    exact ⟨rfl, by simpa [sortL] using ho, Kp.refl _ _⟩
  · obtain ⟨g, off, rfl⟩ := ho.addr (by omega)
    have hlt : g < w.heap.size := ho.lt rfl
    let ls : List Lit := xs.pmap Subtype.mk hm
    have hls : ls.map (fun x : Lit => x.1) = xs := by simp [ls, List.map_pmap]
    have hle : ls.length = xs.length := by simp [ls]
    have hen : ls.map encLit = xs.map I64 := by rw [← hls, List.map_map]; rfl
    have hol : Own w 3 (.slice (some ⟨g, off, none⟩) xs.length cap) (ls.map encLit) := by rw [hen]; exact ho
    have hcmp : CmpLays1 Tryz.prog 40 #[] encLit (fun (x y : Lit) => cmpL x.1 y.1) g off ls.toArray.size w := fun m os dk _ x y => by
      have hx := may_bd x.2
      have hy := may_bd y.2
      refine (norm2_x x.1 y.1 _ hx.2.1 hx.2.2 hy.2.1 hy.2.2).mono ?_
      rintro e w' ⟨rfl, os', rfl⟩
      exact ⟨rfl, 0, os', rfl⟩
    have h := Any.slices_SortFunc_total Tryz.shSortF encLit one_lit (fun (x y : Lit) => cmpL x.1 y.1) swo_lit 40 #[] g off cap ls.toArray w (En.run_enters Tryz.func40 (by kernel_rfl) rfl) hcmp (own_holds hol) hlt (by simp [hle]; omega)
      (fun x y h1 h2 => by
        simp only [ltOf, cmpL_lt, ahd, decide_eq_false_iff_not] at h1 h2
        exact Subtype.ext (by omega))
    simp only [List.size_toArray, List.toList_toArray, hle] at h
    refine Calls.mono h ?_
    rintro e w' ⟨rfl, n, os, rfl⟩
    refine ⟨rfl, ?_, (sort_kp _ _ _).mono fun k _ h => by subst h; rfl⟩
    have h2 := sort_own hol n os (ys := ls.mergeSort fun x y => !(ltOf fun (x y : Lit) => cmpL x.1 y.1) y x) (by simp) (m := xs.length) (by simp [hle])
    rw [List.take_of_length_le (by simp [hle])] at h2
    have h3 : (ls.mergeSort fun x y => !(ltOf fun (x y : Lit) => cmpL x.1 y.1) y x).map encLit = (sortL xs).map I64 := by
      have := List.map_mergeSort (r := fun x y => !(ltOf fun (x y : Lit) => cmpL x.1 y.1) y x) (s := fun x y => !ahd y x) (f := fun x : Lit => x.1) (l := ls) (fun a _ b _ => by simp only [ltOf, cmpL_lt])
      rw [hls] at this
      unfold sortL
      rw [← this, List.map_map]
      rfl
    rw [h3] at h2
    exact h2
theorem grow_x (n : Nat) (hn : n ≤ 1000000) (w : World) : Calls Tryz.prog 78 #[.slice none 0 0, .int .i64 n] w fun e w' => ∃ A c, e = .returned (.slice A 0 c) ∧ Own w' 3 (.slice A 0 c) [] ∧
    (∀ g, (Value.slice A 0 c).ownBlock = some g → w.heap.size ≤ g) ∧ Below w.heap.size w w' := by
  by_cases h0 : n = 0
  · subst h0
    refine (Any8.slices_Grow_room Tryz.shGrow none 0 0 0 w (by omega) (by omega) (by omega) (by omega)).mono ?_
    rintro e w' ⟨rfl, rfl⟩
    exact ⟨none, 0, rfl, Own.nil _ _, fun g h => (by cases h), Below.refl _ _⟩
  · have hinf : (Tryz.prog.info? 3).map (fun i => (i.zero, i.size, i.bytes)) = some (some (.int .i64 0), 1, 8) := by kernel_rfl
    obtain ⟨i0, hi, hz0, hz1, hz2⟩ := info_parts hinf
    refine (Any8.slices_Grow_grow Tryz.shGrow i0 (.int .i64 0) hi hz0 (by omega) none 0 0 n [] w (by omega) (by omega) (by rw [hz2]; omega) (by omega) (by simp) (fun _ => rfl) (fun a h => by cases h)).mono ?_
    rintro e w' ⟨rfl, rfl⟩
    have hge := grownCap_ge w (0 + n) 0 3
    have hle := grownCap_le_maxLen w (0 + n) 0 3 (by unfold maxLen; omega)
    refine ⟨_, _, rfl, .inr ⟨w.heap.size, 0, _, _, rfl, .mk0 (heap_alloc_new _ _), Nat.zero_le _, hle, ?_, fun j h => by simp at h⟩, fun g h => ?_, ((Below.refl _ w).drew).alloc (Nat.le_refl _) _⟩
    · simp only [Array.size_append, size_zeroCells, List.size_toArray, List.length_nil, Nat.zero_add, Nat.sub_zero] at hge ⊢
      simp [Value.cells]
      omega
    · simp [Value.ownBlock] at h
      omega
end Go.Proofs.YtiokflebeojokaaGreatDoor
