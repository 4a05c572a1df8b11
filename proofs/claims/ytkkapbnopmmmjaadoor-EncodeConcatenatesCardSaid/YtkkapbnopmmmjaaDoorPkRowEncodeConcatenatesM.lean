/- Lemmas and contracts for the row. -/
import Derived.Test.YtkkapbnopmmmjaaDoorPkRowEncodeConcatenatesH
import Derived.Test.YtkkapbnopmmmjaaDoorPkRowEncodeConcatenatesK
import Derived.Deep.Slices
import Derived.ChangeSame
import Derived.Shelf.SlicesE.DeleteFunc
import Derived.Shelf.SlSortCmp.NoneTotal
import Derived.Shelf.SlicesG.CompactI
import Derived.Shelf.Spec.SlicesGrow
import Derived.Ground.SlgfProg
import Derived.Ground.SlsfProg
import Derived.Ground.SlgnProg
import Derived.Ground.Names8Prog
import Derived.Test.YtkkapbnopmmmjaaDoorProg
import Derived.Test.YtkkapbnopmmmjaaDoorPkRowEncodeConcatenatesG
import Derived.Lib.RowBridge
import Derived.Test.YtkkapbnopmmmjaaDoorPkRowEncodeConcatenatesE
import Derived.Test.YtkkapbnopmmmjaaDoorPkRowEncodeConcatenatesL
set_option linter.unusedVariables false
set_option linter.unusedSimpArgs false
set_option linter.unnecessarySimpa false
namespace Go.Proofs.YtkkapbnopmmmjaaDoor.En
open Go Go.ChangeShapes Go.WideShapes Go.ChangeAt Go.RowKit Go.Joins Go.Deep
abbrev gW (W : World) : Gh := g0 W (· < W.heap.size)
section
variable {H : Type} {enc : TypeId × Value → H} {P : Program} {w : World} {b0 : Nat} {v : Value} {d : DataW H} {p : List MemPlace} {r : Reach}
theorem trod_intsE {t e : TypeId} {fuel : Nat} {cs : List Value} {base : Nat} {x : DataW H × List MemPlace} (ht : P.underlying t = some (.slice e)) (he : P.underlying e = some (.int .i64)) (hc : P.cellsOf e = 1)
    (h : DataW.trod enc P w base (fun _ => true) true fuel t cs = some x) : ∃ v xs, cs = [v] ∧ Den (gW w) (.ints xs) v ∧ xs.length ≤ maxLen ∧ ∀ n ∈ xs, InI64 n := by
  rcases open_ints ht he hc h with ⟨rfl, _⟩ | ⟨a, len, cap, zs, rfl, _, hl, hm, hz, _, hcell, hwz⟩
  · exact ⟨_, [], rfl, by simp only [Den]; exact .nil _ none 0 rfl, by simp, by simp⟩
  · simp only [if_true] at hz
    have hlen : (zs.take len).length = len := by rw [List.length_take, Nat.min_eq_left (by omega)]
    refine ⟨_, zs.take len, rfl, ?_, by omega, fun n hn => i64_of_wf (hwz n (List.mem_of_mem_take hn))⟩
    have := den_ints (W := w) (A := some a) (xs := zs.take len) (c := cap) (cells_rd (by omega) hcell) (by omega) (by omega)
    rwa [hlen] at this
end
section
variable {H : Type} {enc : TypeId × Value → H} {P : Program} {w : World} {b0 : Nat} {v : Value} {d : DataW H} {p : List MemPlace} {r : Reach}
theorem cell_spot {a : Addr} {u : Value} (h : w.cell? a = some u) : ∃ b off, a = ⟨b, off, none⟩ ∧ b < w.heap.size := by
  have hb := World.block_lt_of_cell? w a h
  obtain ⟨b, off, s⟩ := a
  cases s with
  | none => exact ⟨b, off, rfl, hb⟩
  | some s => simp [World.cell?] at h; split at h <;> simp at h
theorem weights_one {H : Type} {P : Program} {t : TypeId} {ts : List TypeId} {d : DataW H} {ds : List (DataW H)} {q : Nat → Bool} (h : (DataW.weightsEach P (t :: ts) (d :: ds)).all q = true) : (DataW.weights P t d).all q = true ∧ (DataW.weightsEach P ts ds).all q = true := by
  simpa [DataW.weightsEach, List.all_append] using h
theorem open_trip {t e : TypeId} {f0 f1 f2 : Field} {fuel : Nat} {cs : List Value} {base : Nat} {x : DataW H × List MemPlace} (ht : P.underlying t = some (.slice e)) (he : P.underlying e = some (.struct #[f0, f1, f2]))
    (ce : P.cellsOf e = 3) (o0 : f0.offset = 0) (o1 : f1.offset = 1) (o2 : f2.offset = 2) (c0 : P.cellsOf f0.type = 1) (c1 : P.cellsOf f1.type = 1) (c2 : P.cellsOf f2.type = 1)
    (h : DataW.trod enc P w base (fun _ => true) true fuel t cs = some x) :
    cs = [.slice none 0 0] ∨ ∃ (a : Addr) (len cap n : Nat), cs = [.slice (some a) len cap] ∧ len ≤ cap ∧ cap ≤ maxLen ∧
      ∀ i, i < cap → ∃ (v0 v1 v2 : Value) (y0 y1 y2 : DataW H × List MemPlace), w.cell? (a.add (i * 3)) = some v0 ∧ w.cell? (a.add (i * 3 + 1)) = some v1 ∧ w.cell? (a.add (i * 3 + 2)) = some v2 ∧
        DataW.trod enc P w base (fun _ => true) true n f0.type [v0] = some y0 ∧ DataW.trod enc P w base (fun _ => true) true n f1.type [v1] = some y1 ∧ DataW.trod enc P w base (fun _ => true) true n f2.type [v2] = some y2 := by
  rcases open_slice ht h with h0 | ⟨a, len, cap, m, n, D, Pl, rfl, hb, hl, hm, hmm, rfl, hx⟩
  · exact .inl h0.1
  right
  simp only [if_true] at hmm
  subst hmm
  refine ⟨a, len, m, n - 1, rfl, hl, hm, fun i hi => ?_⟩
  obtain ⟨cs', h1, h2⟩ := hx i hi
  rw [ce] at h1
  obtain ⟨_, hlen, hcell⟩ := World.cells?_some h1
  obtain ⟨xs, k, hk, hxy, _, hxl, hf⟩ := DataW.trod_struct he h2
  have hk' : k = n - 1 := by omega
  subst hk'
  match xs, hxl, cs', hlen with
  | [y0, y1, y2], _, [v0, v1, v2], _ =>
    have g0 := hf 0 f0 rfl
    have g1 := hf 1 f1 rfl
    have g2 := hf 2 f2 rfl
    simp [o0, o1, o2, c0, c1, c2] at g0 g1 g2
    have e0 := hcell 0 (by omega)
    have e1 := hcell 1 (by omega)
    have e2 := hcell 2 (by omega)
    rw [add_add] at e0 e1 e2
    exact ⟨v0, v1, v2, y0, y1, y2, by simpa using e0, by simpa using e1, by simpa using e2, g0, g1, g2⟩
end
set_option maxRecDepth 100000 in
theorem open_linsE {H : Type} {enc : TypeId × Value → H} {w : World} {r : Reach} {b0 : Nat} {v : Value} {d : DataW H} {p : List MemPlace} (hv : Value.okWide Tryd.prog w r b0 22 v) (h : DataW.Trod enc Tryd.prog w 0 (fun _ => true) true 22 v d p) :
    ∃ u, Den (gW w) (.lins u) v ∧ u.length ≤ maxLen := by
  obtain ⟨fuel, hf⟩ := h
  obtain ⟨a0, l0, c0, rfl⟩ := okWide_slice Tryd.underlying22 hv
  rcases open_trip Tryd.underlying22 Tryd.underlying26 (by kernel_rfl) rfl rfl rfl (by kernel_rfl) (by kernel_rfl) (by kernel_rfl) hf with e1 | ⟨a, len, cap, n, e1, hl, hm, hcell⟩
  · simp [Value.cells] at e1
    obtain ⟨rfl, rfl, rfl⟩ := e1
    exact ⟨[], by simp only [Den]; exact .nil _ none 0 rfl, by decide⟩
  · simp [Value.cells] at e1
    obtain ⟨ea, el, ec⟩ := e1
    rw [ea, el, ec]
    clear hv hf ea el ec
    have hx : ∀ i, ∃ q : (Value × Value × Value) × (List Int × List Int × Int), i < len → w.cell? (a.add (i * 3)) = some q.1.1 ∧ w.cell? (a.add (i * 3 + 1)) = some q.1.2.1 ∧ w.cell? (a.add (i * 3 + 2)) = some q.1.2.2 ∧
        Den (gW w) (.ints q.2.1) q.1.1 ∧ Den (gW w) (.ints q.2.2.1) q.1.2.1 ∧ q.1.2.2 = .int .i64 q.2.2.2 := fun i => by
      by_cases hi : i < len
      · obtain ⟨v0, v1, v2, y0, y1, y2, h0, h1, h2, g0, g1, g2⟩ := hcell i (by omega)
        obtain ⟨u0, C, e0, r0, _, _⟩ := trod_intsE Tryd.underlying24 Tryd.underlying3 (by kernel_rfl) g0
        obtain ⟨u1, L, e1, r1, _, _⟩ := trod_intsE Tryd.underlying24 Tryd.underlying3 (by kernel_rfl) g1
        obtain ⟨B, e2, _, _⟩ := DataW.trod_int Tryd.underlying3 g2
        simp at e0 e1 e2
        subst e0 e1 e2
        exact ⟨((v0, v1, .int .i64 B), (C, L, B)), fun _ => ⟨h0, h1, h2, r0, r1, rfl⟩⟩
      · exact ⟨((.bool false, .bool false, .bool false), ([], [], 0)), fun h => absurd h hi⟩
    obtain ⟨X, hX⟩ := Classical.axiomOfChoice hx
    have hlen : ((List.range len).map fun i => (X i).2).length = len := by simp
    have hget : ∀ i, i < len → ((List.range len).map fun i => (X i).2).getD i ([], [], 0) = (X i).2 := fun i hi => by simp [List.getD, hi]
    refine ⟨(List.range len).map fun i => (X i).2, ?_, by omega⟩
    simp only [Den]
    by_cases h0 : len = 0
    · subst h0; exact .nil _ _ _ rfl
    · obtain ⟨b, off, hab, hb⟩ := cell_spot (hX 0 (by omega)).1
      have haa : a = ⟨b, off, none⟩ := by rwa [show a.add (0 * 3) = a from rfl] at hab
      subst haa
      have := Rep.ls (W := w) (G := (gW w).G) (.lins ((List.range len).map fun i => (X i).2)) b off cap (fun i j => if j = 0 then (X i).1.1 else if j = 1 then (X i).1.2.1 else (X i).1.2.2) (by show ((List.range len).map fun i => (X i).2).length ≤ _; omega) (by show ((List.range len).map fun i => (X i).2).length ≤ _; omega) hb (fun i j hi hj => by
        have hi' : i < len := by simpa [LD.len] using hi
        have hj' : j < 3 := hj
        obtain ⟨h1, h2, h3, _⟩ := hX i hi'
        rw [add_mk] at h1 h2 h3
        show w.cell? ⟨b, off + i * 3 + j, none⟩ = _
        match j, hj' with
        | 0, _ => exact h1
        | 1, _ => exact h2
        | 2, _ => exact h3) (fun i j hi hj => by
        have hi' : i < len := by simpa [LD.len] using hi
        have hj' : j < 3 := hj
        obtain ⟨_, _, _, h4, h5, h6⟩ := hX i hi'
        simp only [Den] at h4 h5
        show Rep w _ (linCell (((List.range len).map fun i => (X i).2).getD i ([], [], 0)) j) _
        rw [hget i hi']
        match j, hj' with
        | 0, _ => exact h4
        | 1, _ => exact h5
        | 2, _ => show Rep w _ (.int (X i).2.2.2) (X i).1.2.2; rw [h6]; exact .val _)
      have hl2 : LD.len (.lins ((List.range len).map fun i => (X i).2)) = len := hlen
      rw [hl2] at this
      exact this
end Go.Proofs.YtkkapbnopmmmjaaDoor.En
namespace Go.Proofs
open Go.Shelf
def Tryd.shDelete_ren : Go.Shelf.Ren := ⟨fun | 10 => 78 | 6 => 47 | n => n, fun | 22 => 24 | 23 => 3 | 25 => 66 | 3 => 3 | 4 => 4 | 0 => 0 | n => n, fun | n => n⟩
theorem Tryd.shDelete : Go.Proofs.SlLaysH.n10 Tryd.prog Tryd.shDelete_ren := {
  mixed := by kernel_rfl
  f6 := ⟨Tryd.f47.name, by decide, Tryd.func47.trans (congrArg some (by kernel_rfl))⟩
  f10 := ⟨Tryd.f78.name, by decide, Tryd.func78.trans (congrArg some (by kernel_rfl))⟩
  t0 := Tryd.underlying0
  a0 := Tryd.isAgg0
  z0 := Tryd.sizeOf0
  v0 := Tryd.zeroValue0
  t3 := Tryd.underlying3
  a3 := Tryd.isAgg3
  z3 := Tryd.sizeOf3
  v3 := Tryd.zeroValue3
  t4 := Tryd.underlying4
  a4 := Tryd.isAgg4
  z4 := Tryd.sizeOf4
  v4 := Tryd.zeroValue4
  t22 := Tryd.underlying24
  a22 := Tryd.isAgg24
  z22 := Tryd.sizeOf24
  v22 := Tryd.zeroValue24
  a23 := Tryd.isAgg3
  z23 := Tryd.sizeOf3
  t25 := Tryd.underlying66
  a25 := Tryd.isAgg66
  z25 := Tryd.sizeOf66
  v25 := Tryd.zeroValue66 }
end Go.Proofs
namespace Go.Proofs.YtkkapbnopmmmjaaDoor
open Go Go.RowKit Go.Sort Go.Shelf
open Cn (ahd sortL)
theorem one_i64 : OneCell I64 := fun _ => rfl
def Turned (e : Nat) (w : World) (v : Value) (us : List Value) (w' : World) (v' : Value) : Prop := Own w' e v' us ∧ w.grownBy w' v.ownBlock ∧ ∀ b, v'.ownBlock = some b → v.ownBlock = some b
theorem kp_grown {w w' : World} {g : Nat} (h : Kp (fun b => b = g) w w') : w.grownBy w' (some g) := ⟨h.os, h.tape, h.output, h.size, fun k hk hn => h.block k hk (fun e => hn (by rw [e]))⟩
theorem grown_refl (w : World) (r : Option Nat) : w.grownBy w r := ⟨rfl, rfl, rfl, Nat.le_refl _, fun _ _ _ => rfl⟩
theorem put_sort {α : Type} [Inhabited α] (enc : α → Value) (w : World) (blk off q : Nat) (d : Array α) : putRow enc (Sort.ahead w q) blk off d = sortWorld enc w blk off q d #[] := by unfold sortWorld; rw [grow_empty]
def PredIn (f : Nat) (lb : List Value) (p : Int → Bool) (G : Nat → Prop) (w : World) : Prop :=
  ∀ (W : World) (x : Int), (∀ b, G b → W.heap[b]? = w.heap[b]?) → Calls Tryd.prog f (I64 x :: lb).toArray W fun e w' => e = .returned (.bool (p x)) ∧ W = w'
theorem ifnone_x (A : Option Addr) (c : Nat) (fv : Value) (w : World) : Calls Tryd.prog 47 #[.slice A 0 c, fv] w fun e w' => e = .returned (I64 (-1)) ∧ w = w' := by
  go_enter Tryd.func47, Tryd.ntmps47
  go_wp2_with fail
  refine wp_loop_rounds 1 ?_
  rw [rounds_succ]
  go_wp2_with fail
  go_ret
  exact ⟨rfl, rfl⟩
theorem delnone_x (A : Option Addr) (c : Nat) (fv : Value) (w : World) : Calls Tryd.prog 78 #[.slice A 0 c, fv] w fun e w' => e = .returned (.slice A 0 c) ∧ w = w' := by
  go_enter Tryd.func78, Tryd.ntmps78
  go_wp2_with fail
  refine (ifnone_x A c fv w).mono ?_
  rintro e w1 ⟨rfl, rfl⟩
  go_wp2_with fail
  go_ret
  exact ⟨rfl, rfl⟩
theorem del_own {f : Nat} {lb : List Value} {p : Int → Bool} {G : Nat → Prop} {v : Value} {xs : List Int} {w : World} (heg : ∀ (args : Array Value) (w : World), (callFunc f args).run Tryd.prog w = .ok (.enter f args) w)
    (hG : ∀ b, G b → b < w.heap.size) (hv : ∀ b, v.ownBlock = some b → ¬ G b) (hp : PredIn f lb p G w) (ho : Own w 3 v (xs.map I64)) (hl : xs.length ≤ maxLen) :
    Calls Tryd.prog 78 #[v, .func (.func f) #[] lb.toArray] w fun e w' => ∃ v', e = .returned v' ∧ Turned 3 w v ((xs.filter fun x => !p x).map I64) w' v' := by
  obtain ⟨A, cap, hform, _⟩ := ho.form
  rw [List.length_map] at hform
  subst hform
  by_cases h0 : xs.length = 0
  · obtain rfl := List.eq_nil_of_length_eq_zero h0
    refine (delnone_x A cap _ w).mono ?_
    rintro e w' ⟨rfl, rfl⟩
    exact ⟨_, rfl, ho, grown_refl _ _, fun _ h => h⟩
  · obtain ⟨g, off, rfl⟩ := ho.addr (by omega)
    obtain ⟨cur, h1, h2, h3, h4, _⟩ := ho.cur rfl
    rw [List.length_map] at h2
    have hng : ¬ G g := hv g rfl
    have hcall : ∀ (W : World) (x : Int), (∀ b, G b → W.heap[b]? = w.heap[b]?) → FnGives Tryd.prog f lb.toArray #[I64 x] (.bool (p x)) W := fun W x hW => by
      unfold FnGives
      have e : #[I64 x] ++ lb.toArray = (I64 x :: lb).toArray := by simp
      rw [e]
      refine (hp W x hW).mono ?_
      rintro e w' ⟨rfl, rfl⟩
      exact ⟨rfl, 0, rfl⟩
    have h := AnyE.slices_DeleteFunc Tryd.shDelete I64 one_i64 p f lb.toArray heg 0 (fun w => Tryd.zeroValue3 w) g off cap xs.toArray w
      (fun W x hb => hcall W x fun b hb' => hb.block b (hG b hb')) (fun n os dk x _ => hcall _ x fun b hb' => (sort_kp n dk os).block b (hG b hb') (fun e => hng (e ▸ hb')))
      (own_holds ho) (by simp; unfold maxLen at hl; omega) (by simpa using h2)
    simp only [List.size_toArray, List.toList_toArray] at h
    refine Calls.mono h ?_
    rintro e w' ⟨rfl, q, rfl⟩
    have hfl : (xs.filter fun x => !p x).length ≤ xs.length := List.length_filter_le _ _
    rw [put_sort]
    refine ⟨_, rfl, ?_, kp_grown (sort_kp _ _ _), fun b h => h⟩
    have := sort_own ho q #[] (ys := (xs.filter fun x => !p x) ++ List.replicate (xs.length - (xs.filter fun x => !p x).length) 0) (by simp; omega) (m := (xs.filter fun x => !p x).length) (by simp)
    rw [List.take_left'] at this
    · exact this
    · rfl
end Go.Proofs.YtkkapbnopmmmjaaDoor
namespace Go.Proofs.YtkkapbnopmmmjaaDoor.En
open Go Go.RowKit
theorem turned_out {w : World} {v : Value} {us : List Value} {e : Ending} {w' : World} (h : ∃ v', e = .returned v' ∧ Turned 3 w v us w' v') :
    ∃ v', e = .returned v' ∧ Own w' 3 v' us ∧ w.grownBy w' v.ownBlock ∧ ∀ b, v'.ownBlock = some b → v.ownBlock = some b ∨ b = w.heap.size := by
  obtain ⟨v', h1, h2, h3, h4⟩ := h
  exact ⟨v', h1, h2, h3, fun b hb => .inl (h4 b hb)⟩
end Go.Proofs.YtkkapbnopmmmjaaDoor.En
namespace Go.Proofs.YtkkapbnopmmmjaaDoor.En
open Go Go.RowKit
theorem putz_x (x : Int) (w : World) : Calls Tryd.prog 79 #[I64 x] w fun e w' => e = .returned (.bool (x == 0)) ∧ w = w' := by
  go_enter Tryd.func79, Tryd.ntmps79
  go_wp2_with fail
  go_ret
  exact ⟨rfl, rfl⟩
def sDelZ : CtF := fun args os => match args, os with
  | [.row 0, .clo 79 []], [.row 3 (.ints xs)] => some (xs.length ≤ 1000000000000, .row 1, [none, some (.row 3 (.ints (xs.filter fun x => !(x == 0))))])
  | _, _ => none
theorem sDelZ_sound : Sound Tryd.prog 78 sDelZ := by
  refine sound_row (e := 3) (run_enters Tryd.func78 (by kernel_rfl) rfl) fun args os p r outs h => ?_
  unfold sDelZ at h
  split at h
  · rename_i xs
    injection h with h
    injection h with h1 h
    injection h with h2 h3
    subst h1 h2 h3
    refine ⟨_, .ints xs, _, rfl, rfl, rfl, rfl, rfl, rfl, rfl, fun hp => ⟨?_, fun W G v vs hG hn _ ho hl hd => ?_⟩⟩
    · have := List.length_filter_le (fun x => !(x == 0)) xs
      show (xs.filter _).length ≤ maxLen
      unfold maxLen; omega
    · simp only [DenL, Den] at hd
      obtain ⟨v1, vs', rfl, ⟨lb, hv1, rfl⟩, rfl⟩ := hd
      rw [cloV_1 (by kernel_rfl)] at hv1
      subst hv1
      have := del_own (f := 79) (lb := []) (p := fun x => x == 0) (G := G) (v := v) (xs := xs) (w := W) (run_enters Tryd.func79 (by kernel_rfl) rfl) hG hn (fun W x _ => putz_x x W) ho hl
      exact this.mono fun e' W' h => turned_out h
  · cases h
end Go.Proofs.YtkkapbnopmmmjaaDoor.En
namespace Go.Proofs.YtkkapbnopmmmjaaDoor.En
open Go Go.RowKit
def tyCnt : List (Nat × TD) := [(3, ⟨1, false, [.int .i64 0], [], none, 8, false, 1, 1⟩),
  (4, ⟨1, false, [.bool false], [], none, 1, true, 0, 2⟩),
  (24, ⟨1, false, [.slice none 0 0], [], some 3, 24, false, 0, 53⟩),
  (27, ⟨1, false, [.slice none 0 0], [], some 24, 24, false, 0, 0⟩),
  (28, ⟨1, false, [.int .i64 0], [], none, 8, false, 1, 1⟩),
  (66, ⟨1, false, [.nilFunc], [], none, 8, false, 0, 0⟩),
  (90, ⟨1, true, [.slice none 0 0], [(0, 27)], none, 24, false, 0, 0⟩),
  (111, ⟨1, false, [.map none], [], none, 8, false, 10, 4⟩)]
theorem tyCnt_ok : AllTy Tryd.prog tyCnt := ⟨⟨by kernel_rfl, by kernel_rfl, by kernel_rfl⟩, ⟨by kernel_rfl, by kernel_rfl, by kernel_rfl⟩, ⟨by kernel_rfl, by kernel_rfl, by kernel_rfl⟩, ⟨by kernel_rfl, by kernel_rfl, by kernel_rfl⟩, ⟨by kernel_rfl, by kernel_rfl, by kernel_rfl⟩, ⟨by kernel_rfl, by kernel_rfl, by kernel_rfl⟩, ⟨by kernel_rfl, by kernel_rfl, by kernel_rfl⟩, ⟨by kernel_rfl, by kernel_rfl, by kernel_rfl⟩, trivial⟩
def cx_kRight : Cx := ⟨tyCnt, [], true⟩
theorem cx_kRight_ok : CxOk Tryd.prog cx_kRight := cx_ok tyCnt_ok trivial
def kRight_σ : CtF
  | [.im (.ls (.ints l)), .im (.val (.int .i64 next))], [] => some (l.length ≤ maxLen ∧ (∀ x ∈ l, -70000 ≤ x ∧ x ≤ 70000), .int (Cn.rightE next l), [])
  | _, _ => none
theorem kRight_sound : Sound Tryd.prog 60 kRight_σ := by
 refine Sw (cx := cx_kRight) Tryd.f60 Tryd.func60 ?_
 intro wW wO wβ G0 args os p r outs hσ hp
 have hcx := cx_kRight_ok
 unfold kRight_σ at hσ
 split at hσ
 ·
  rename_i l next
  cases hσ
  refine ⟨by kernel_rfl, ?_⟩
  obtain ⟨hm1, hm2⟩ := hp
  unfold maxLen at hm1
  have hb := fun i (h : i < l.length) => hm2 _ (Cn.getD_memL (d := (0 : Int)) (k := i) h)
  refine Sz hcx [] [] [] [] (Zs (Sq hcx [] [19] [] [] [((!(decide (next < 1))) = true → ((!(decide (next < 1))) = true)), ((decide (next < 1)) = false → (!(decide (next < 1))) = true), ((!((decide (next < 1)) || (decide (next > 65537)))) = true → ((!((decide (next < 1)) || (decide (next > 65537)))) = true)), ((!((decide (next < 1)) || (decide (next > 65537)))) = true → ((!((decide (next < 1)) || (decide (next > 65537)))) = true)), (((decide (next < 1)) || (decide (next > 65537))) = false → (!((decide (next < 1)) || (decide (next > 65537)))) = true)] ?_ (Zi (b := ((decide (next < 1)) || (decide (next > 65537))) || (decide ((l.length : Int) > 4096))) (fun h0 => ?_) fun h0 => ?_)))
  ·
   refine ap ?_ (ap (by exact vcNot) (ap ?_ (ap ?_ (ap (by exact vcNot) az)))) <;>
    first | omega | exact id | exact vcNot | exact vcG | exact vcH | (intro _; omega) | exact (fun _ h => h) | (intro h; simp at h; omega) | (simp only [List.length_cons, List.length_nil, List.length_append, List.length_map, List.length_set, List.length_replicate]; omega) | (intro h; simp [h]; done) | (have h8 := hbi (by omega); constructor <;> omega) | (have h8 := hbi (by omega); intro _; constructor <;> omega) | exact rfl | done
  ·
   have hr := Cn.rt_arg h0
   exact Sz hcx [] [4] [19, 0, 1] [] (Zr (Fr (Rv hcx (congrArg AV.int (show 1 = (Cn.rightE next l) from (by exact hr.symm))) [] rfl)))
  ·
   have hg := Cn.rt_ok h0
   refine Zk (Ft (Sz hcx [(1000, .to 220)] [5] [19] [] (Zs (Sz hcx [] [21, 22, 23] [0] [] (Zb (Zn [(220, .to 700)] [1, 5, 21, 22, 23] (Lp (X := Nat) (fun x0 => x0 ≤ l.length ∧ ∀ j, j < x0 → Cn.rtAt next l j = true) (fun x0 => ([(1, .int next), (5, .row 700), (21, .ints l), (22, .int (l.length : Int)), (23, .int (x0 : Int))], [(700, .mset (Cn.seenC (l.take x0)))])) (fun x0 => l.length - x0) (0) ?_ (Ex 23 (congrArg AV.int (show 0 = (0 : Int) from (by first | rfl | omega | (simp; done)))) Eb) Hb fun i hI => ?_)))))))
   ·
    exact ⟨Nat.zero_le _, fun j hj => by omega⟩
   ·
    try dsimp only at hI
    obtain ⟨hk, hok⟩ := hI
    have hbi := hb i
    refine Sz hcx [] [24] [] [] (Zs (Zj (p := ((i : Int) < (l.length : Int))) (fun h1 => ?_) fun h1 => ?_))
    ·
     refine Zk (Ft (Zs (Zb (Sq hcx [] [7] [24] [] [((0 : Int) ≤ (i : Int) ∧ (i : Int) < (l.length : Int))] ?_ (Sq hcx [] [8] [7] [] [Fit (-(l.getD i 0))] ?_ (Zs (Sq hcx [] [42] [] [] [((!(decide ((max (l.getD i 0) (-(l.getD i 0))) ≤ 0))) = true → ((!(decide ((max (l.getD i 0) (-(l.getD i 0))) ≤ 0))) = true)), ((!(decide ((max (l.getD i 0) (-(l.getD i 0))) ≤ 0))) = true → ((!(decide ((max (l.getD i 0) (-(l.getD i 0))) ≤ 0))) = true)), ((decide ((max (l.getD i 0) (-(l.getD i 0))) ≤ 0)) = false → (!(decide ((max (l.getD i 0) (-(l.getD i 0))) ≤ 0))) = true), ((!((decide ((max (l.getD i 0) (-(l.getD i 0))) ≤ 0)) || (decide ((max (l.getD i 0) (-(l.getD i 0))) ≥ next)))) = true → ((!((decide ((max (l.getD i 0) (-(l.getD i 0))) ≤ 0)) || (decide ((max (l.getD i 0) (-(l.getD i 0))) ≥ next)))) = true)), ((!((decide ((max (l.getD i 0) (-(l.getD i 0))) ≤ 0)) || (decide ((max (l.getD i 0) (-(l.getD i 0))) ≥ next)))) = true → ((!((decide ((max (l.getD i 0) (-(l.getD i 0))) ≤ 0)) || (decide ((max (l.getD i 0) (-(l.getD i 0))) ≥ next)))) = true)), (((decide ((max (l.getD i 0) (-(l.getD i 0))) ≤ 0)) || (decide ((max (l.getD i 0) (-(l.getD i 0))) ≥ next))) = false → (!((decide ((max (l.getD i 0) (-(l.getD i 0))) ≤ 0)) || (decide ((max (l.getD i 0) (-(l.getD i 0))) ≥ next)))) = true)] ?_ (Zi (b := ((decide ((max (l.getD i 0) (-(l.getD i 0))) ≤ 0)) || (decide ((max (l.getD i 0) (-(l.getD i 0))) ≥ next))) || ((Cn.seenC (l.take i)).contains (max (l.getD i 0) (-(l.getD i 0))))) (fun h2 => ?_) fun h2 => ?_))))))))
     ·
      refine ap ?_ az
      first | omega | exact id | exact vcNot | exact vcG | exact vcH | (intro _; omega) | exact (fun _ h => h) | (intro h; simp at h; omega) | (simp only [List.length_cons, List.length_nil, List.length_append, List.length_map, List.length_set, List.length_replicate]; omega) | (intro h; simp [h]; done) | (have h8 := hbi (by omega); constructor <;> omega) | (have h8 := hbi (by omega); intro _; constructor <;> omega) | exact rfl | done
     ·
      refine ap ?_ az
      first | omega | exact id | exact vcNot | exact vcG | exact vcH | (intro _; omega) | exact (fun _ h => h) | (intro h; simp at h; omega) | (simp only [List.length_cons, List.length_nil, List.length_append, List.length_map, List.length_set, List.length_replicate]; omega) | (intro h; simp [h]; done) | (have h8 := hbi (by omega); constructor <;> omega) | (have h8 := hbi (by omega); intro _; constructor <;> omega) | exact rfl | done
     ·
      refine ap ?_ (ap ?_ (ap (by exact vcNot) (ap ?_ (ap ?_ (ap (by exact vcNot) az))))) <;>
       first | omega | exact id | exact vcNot | exact vcG | exact vcH | (intro _; omega) | exact (fun _ h => h) | (intro h; simp at h; omega) | (simp only [List.length_cons, List.length_nil, List.length_append, List.length_map, List.length_set, List.length_replicate]; omega) | (intro h; simp [h]; done) | (have h8 := hbi (by omega); constructor <;> omega) | (have h8 := hbi (by omega); intro _; constructor <;> omega) | exact rfl | done
     ·
      have hq : Cn.rtAt next l i = false := Cn.notT h2
      have hr := Cn.rt_bad hg (by omega) hq
      exact Sz hcx [] [4] [42, 8, 1, 5, 21, 22, 23] [700] (Zr (Fr (Fk (Fr (Fr (Fk (Fr (Rv hcx (congrArg AV.int (show 140 = (Cn.rightE next l) from (by exact hr.symm))) [] rfl))))))))
     ·
      have hq : Cn.rtAt next l i = true := Cn.notF h2
      refine Zk (Ft (Tq hcx [(700, .to 700)] [] [42, 8] [] [(true = true)] ?_ (Fb (Ft (Tq hcx [] [23] [] [] [Fit ((i : Int) + 1)] ?_ (Lr (i + 1) ?_ ?_ (Ex 23 (congrArg AV.int (show ((i : Int) + 1) = ((i + 1) : Int) from (by first | rfl | omega | (simp; done)))) Eb) (Hx 700 (congrArg AObj.mset (show (addK (Cn.seenC (l.take i)) (max (l.getD i 0) (-(l.getD i 0)))) = (Cn.seenC (l.take (i + 1))) from (by exact Cn.seenC_next (by omega)))) Hb)))))))
      ·
       refine ap ?_ az
       first | omega | exact id | exact vcNot | exact vcG | exact vcH | (intro _; omega) | exact (fun _ h => h) | (intro h; simp at h; omega) | (simp only [List.length_cons, List.length_nil, List.length_append, List.length_map, List.length_set, List.length_replicate]; omega) | (intro h; simp [h]; done) | (have h8 := hbi (by omega); constructor <;> omega) | (have h8 := hbi (by omega); intro _; constructor <;> omega) | exact rfl | done
      ·
       refine ap ?_ az
       first | omega | exact id | exact vcNot | exact vcG | exact vcH | (intro _; omega) | exact (fun _ h => h) | (intro h; simp at h; omega) | (simp only [List.length_cons, List.length_nil, List.length_append, List.length_map, List.length_set, List.length_replicate]; omega) | (intro h; simp [h]; done) | (have h8 := hbi (by omega); constructor <;> omega) | (have h8 := hbi (by omega); intro _; constructor <;> omega) | exact rfl | done
      ·
       exact ⟨by omega, fun j hj => by rcases (by omega : j < i ∨ j = i) with h | rfl; exact hok j h; exact hq⟩
      ·
       show l.length - (i + 1) < l.length - i
       omega
    ·
     have hr := Cn.rt_fine hg (by omega) hok
     exact Ze (Fe (Fe (Fs (Ft (Sz hcx [] [4] [24, 1, 5, 21, 22, 23] [700] (Zr (Rv hcx (congrArg AV.int (show 0 = (Cn.rightE next l) from (by exact hr.symm))) [] rfl)))))))
 ·
  cases hσ
def cx_kPut : Cx := ⟨tyCnt, [(78, sDelZ)], true⟩
theorem cx_kPut_ok : CxOk Tryd.prog cx_kPut := cx_ok tyCnt_ok ⟨sDelZ_sound, trivial⟩
def kPut_σ : CtF
  | [.loc 0 0, .row 1], [.box [.row 2], .row 3 (.ints xs), .row 24 (.intss c)] => some (xs.length ≤ 1000 ∧ c.length ≤ 1000000000000, .tup [], [some (.box [.row 3]), none, none, some (.row 24 (.intss (c ++ [Cn.nz xs])))])
  | _, _ => none
theorem kPut_sound : Sound Tryd.prog 61 kPut_σ := by
 refine Sw (cx := cx_kPut) Tryd.f61 Tryd.func61 ?_
 intro wW wO wβ G0 args os p r outs hσ hp
 have hcx := cx_kPut_ok
 have hmx : Tryd.prog.follows .mixedOrders = true := by kernel_rfl
 unfold kPut_σ at hσ
 split at hσ
 ·
  rename_i xs c
  cases hσ
  refine ⟨by kernel_rfl, ?_⟩
  obtain ⟨hm1, hm2⟩ := hp
  refine Td hcx hmx [0, 0, 2, 6, 14, 0, 32, 96, 254, 511, 1023, 2047] [(0, .to 0), (1008, .to 212)] [] [0, 1] [1, 2] [(xs.length ≤ 1000000000000), ((c.length + [(xs.filter fun x => !(x == 0))].length) * 24 ≤ 140737488355328)] ?_ (Fn [(0, .to 0), (212, .to 3)] [] (Rw hcx rfl [true, false, false, true] (consO rfl (consO rfl (consO rfl (consO (congrArg some (congrArg (fun x => AObj.row 24 (.intss x)) (show (c ++ [(xs.filter fun x => !(x == 0))]) = (c ++ [Cn.nz xs]) from (by first | rfl | (simp; done))))) rfl))))))
  ·
   refine ap ?_ (ap ?_ az) <;>
    first | omega | exact id | exact vcNot | exact vcG | exact vcH | (intro _; omega) | exact (fun _ h => h) | (intro h; simp at h; omega) | (simp only [List.length_cons, List.length_nil, List.length_append, List.length_map, List.length_set, List.length_replicate]; omega) | (intro h; simp [h]; done) | (simp only [List.length_cons, List.length_nil]; omega) | done
 ·
  cases hσ
def cx_kRow1 : Cx := ⟨tyCnt, [], true⟩
theorem cx_kRow1_ok : CxOk Tryd.prog cx_kRow1 := cx_ok tyCnt_ok trivial
def kRow1_σ : CtF
  | [.im (.val (.int .i64 j)), .pto [.val (.int .i64 m)], .pto [.val (.int .i64 b)]], [] => some (-1000000000 ≤ b ∧ b ≤ 1000000000 ∧ -1000000000 ≤ j ∧ j ≤ 1000000000, .int (Cn.regV b m j), [])
  | _, _ => none
theorem kRow1_sound : Sound Tryd.prog 80 kRow1_σ := by
 refine Sw (cx := cx_kRow1) Tryd.f80 Tryd.func80 ?_
 intro wW wO wβ G0 args os p r outs hσ hp
 have hcx := cx_kRow1_ok
 unfold kRow1_σ at hσ
 split at hσ
 ·
  rename_i j m b
  cases hσ
  refine ⟨by kernel_rfl, ?_⟩
  obtain ⟨h1_, h2_, h3_, h4_⟩ := hp
  refine Sz hcx [] [] [] [] (Zs (Sq hcx [] [11] [1] [] [((!(decide (j < 1))) = true → ((!(decide (j < 1))) = true)), ((!(decide (j < 1))) = true → ((!(decide (j < 1))) = true)), ((decide (j < 1)) = false → (!(decide (j < 1))) = true)] ?_ (Zi (b := (decide (j < 1)) || (decide (j > m))) (fun h0 => ?_) fun h0 => ?_)))
  ·
   refine ap ?_ (ap ?_ (ap (by exact vcNot) az)) <;>
    first | omega | exact id | exact vcNot | exact vcG | exact vcH | (intro _; omega) | exact (fun _ h => h) | (intro h; simp at h; omega) | (simp only [List.length_cons, List.length_nil, List.length_append, List.length_map, List.length_set, List.length_replicate]; omega) | (intro h; simp [h]; done) | (constructor <;> omega) | done
  ·
   have hr := Cn.reg_out (b := b) h0
   exact Sz hcx [] [4] [11, 0, 2] [] (Zr (Fr (Rv hcx (congrArg AV.int (show 0 = (Cn.regV b m j) from (by exact hr.symm))) [] rfl)))
  ·
   have hr := Cn.reg_in (b := b) h0
   refine Zk (Ft (Sq hcx [] [4] [11, 0, 2] [] [Fit (b + j), Fit ((b + j) - 1)] ?_ (Zr (Rv hcx (congrArg AV.int (show ((b + j) - 1) = (Cn.regV b m j) from (by exact hr.symm))) [] rfl))))
   ·
    refine ap ?_ (ap ?_ az) <;>
     first | omega | exact id | exact vcNot | exact vcG | exact vcH | (intro _; omega) | exact (fun _ h => h) | (intro h; simp at h; omega) | (simp only [List.length_cons, List.length_nil, List.length_append, List.length_map, List.length_set, List.length_replicate]; omega) | (intro h; simp [h]; done) | (constructor <;> omega) | done
 ·
  cases hσ
def cx_kRow : Cx := ⟨tyCnt, [], true⟩
theorem cx_kRow_ok : CxOk Tryd.prog cx_kRow := cx_ok tyCnt_ok trivial
def kRow_σ : CtF
  | [.im (.val (.int .i64 b)), .im (.val (.int .i64 m))], [] => some (True, .clo 80 [.pto [.int m], .pto [.int b]], [])
  | _, _ => none
theorem kRow_sound : Sound Tryd.prog 62 kRow_σ := by
 refine Sw (cx := cx_kRow) Tryd.f62 Tryd.func62 ?_
 intro wW wO wβ G0 args os p r outs hσ hp
 have hcx := cx_kRow_ok
 unfold kRow_σ at hσ
 split at hσ
 ·
  rename_i b m
  cases hσ
  refine ⟨by kernel_rfl, ?_⟩
  exact Sz hcx [(1000, .frz), (1001, .frz)] [2, 3] [0, 1] [] (Sz hcx [] [4] [2, 3] [] (Zr (Ru hcx [])))
 ·
  cases hσ
def cx_kLeast : Cx := ⟨tyCnt, [(60, (coeF [.ld (.ints []), .id] kRight_σ)), (61, kPut_σ), (80, kRow1_σ), (62, kRow_σ)], true⟩
theorem cx_kLeast_ok : CxOk Tryd.prog cx_kLeast := cx_ok tyCnt_ok ⟨(kRight_sound.coe [.ld (.ints []), .id] rfl), kPut_sound, kRow1_sound, kRow_sound, trivial⟩
def kLeast_σ : CtF
  | [.im (.ls (.ints l)), .im (.val (.int .i64 k)), .im (.val (.int .i64 next))], [] => some (l.length ≤ maxLen ∧ (∀ x ∈ l, -70000 ≤ x ∧ x ≤ 70000) ∧ Fit k ∧ Fit next, .tup [.intss ((Cn.leastR l k next).1), .int ((Cn.leastR l k next).2.1), .int ((Cn.leastR l k next).2.2)], [])
  | _, _ => none
set_option maxRecDepth 20000 in
set_option maxHeartbeats 4000000 in
theorem kLeast_sound : Sound Tryd.prog 49 kLeast_σ := by
 refine Sw (cx := cx_kLeast) Tryd.f49 Tryd.func49 ?_
 intro wW wO wβ G0 args os p r outs hσ hp
 have hcx := cx_kLeast_ok
 have hmx : Tryd.prog.follows .mixedOrders = true := by kernel_rfl
 unfold kLeast_σ at hσ
 split at hσ
 ·
  rename_i l k next
  cases hσ
  refine ⟨by kernel_rfl, ?_⟩
  obtain ⟨hm1, hm2, hf1, hf2⟩ := hp
  have hm3 := hm1
  unfold maxLen at hm3
  have hb := fun i (h : i < l.length) => hm2 _ (Cn.getD_memL (d := (0 : Int)) (k := i) h)
  refine Sz hcx [] [] [] [] (Zs (Sq hcx [] [9] [] [] [(l.length ≤ maxLen ∧ (∀ x ∈ l, -70000 ≤ x ∧ x ≤ 70000))] ?_ (Sz hcx [] [23] [] [] (Zx (a := (Cn.rightE next l)) (b := 0) (fun h0 => ?_) fun h0 => ?_))))
  ·
   refine ap ?_ az
   first | omega | exact id | exact vcNot | exact vcG | exact vcH | (intro _; omega) | exact (fun _ h => h) | (intro h; simp at h; omega) | (simp only [List.length_cons, List.length_nil, List.length_append, List.length_map, List.length_set, List.length_replicate]; omega) | (intro h; simp [h]; done) | exact True.intro | exact ⟨hm1, hm2⟩ | (constructor <;> omega) | (intro _; constructor <;> omega) | exact ⟨by omega, by omega, by omega, by omega⟩ | exact ⟨by show (3 : Nat) ≤ 1000; decide, by simp only [List.length_append, List.length_cons, List.length_nil]; omega⟩ | exact ⟨by show (1 : Nat) ≤ 1000; decide, by simp only [List.length_append, List.length_cons, List.length_nil]; omega⟩ | done
  ·
   have hr := Cn.lr_err (k := k) h0
   exact Sz hcx [] [6, 7, 8] [23, 9, 0, 1, 2] [] (Zr (Fr (Fp 6 (.intss []) (Rv hcx (congrArg AV.tup (consE (congrArg AV.intss (show [] = (Cn.leastR l k next).1 from (by first | (rw [hr]; done) | (rw [hr, ← hil]; done)))) (consE (congrArg AV.int (show 0 = (Cn.leastR l k next).2.1 from (by first | (rw [hr]; done) | (rw [hr, ← hil]; done)))) (consE (congrArg AV.int (show (Cn.rightE next l) = (Cn.leastR l k next).2.2 from (by first | (rw [hr]; done) | (rw [hr, ← hil]; done)))) rfl)))) [] rfl))))
  ·
   have h0 : Cn.rightE next l = 0 := by simpa using h0
   obtain ⟨g1, g2, g3⟩ := Cn.right_0 h0
   refine Zk (Ft (Sz hcx [] [10] [23, 9] [] (Zs (Zb (Sz hcx [] [27] [] [] (Zj (p := (k ≤ 0)) (fun h1 => ?_) fun h1 => ?_))))))
   ·
    have hr := Cn.lr_0 h0 h1
    exact Sz hcx [] [6, 7, 8] [27, 10, 0, 1, 2] [] (Zr (Fk (Fr (Fp 6 (.intss []) (Rv hcx (congrArg AV.tup (consE (congrArg AV.intss (show [] = (Cn.leastR l k next).1 from (by first | (rw [hr]; done) | (rw [hr, ← hil]; done)))) (consE (congrArg AV.int (show next = (Cn.leastR l k next).2.1 from (by first | (rw [hr]; done) | (rw [hr, ← hil]; done)))) (consE (congrArg AV.int (show 0 = (Cn.leastR l k next).2.2 from (by first | (rw [hr]; done) | (rw [hr, ← hil]; done)))) rfl)))) [] rfl)))))
   ·
    have h27 := h1
    refine Sz hcx [] [31] [27] [] (Zj (p := (k > (l.length : Int))) (fun h2 => ?_) fun h2 => ?_)
    ·
     have hr := Cn.lr_n h0 h27 h2
     exact Sz hcx [] [6, 7, 8] [31, 10, 0, 1, 2] [] (Zr (Fk (Fr (Rv hcx (congrArg AV.tup (consE (congrArg AV.intss (show [[]] = (Cn.leastR l k next).1 from (by first | (rw [hr]; done) | (rw [hr, ← hil]; done)))) (consE (congrArg AV.int (show next = (Cn.leastR l k next).2.1 from (by first | (rw [hr]; done) | (rw [hr, ← hil]; done)))) (consE (congrArg AV.int (show 0 = (Cn.leastR l k next).2.2 from (by first | (rw [hr]; done) | (rw [hr, ← hil]; done)))) rfl)))) [] rfl))))
    ·
     have h31 := h2
     obtain ⟨b1, b2, b3, b4, b5, b6⟩ := Cn.kk_bd (k := k) (n := (l.length : Int)) (by omega) (by omega) (by omega)
     refine Zk (Fb (Ft (Zs (Sq hcx [] [11] [31] [] [Fit (k - 1), Fit (k * (k - 1)), ((2 : Int) ≠ 0 ∧ Fit ((k * (k - 1)).tdiv 2)), Fit ((l.length : Int) - k), Fit (((l.length : Int) - k) + 1), Fit (k * (((l.length : Int) - k) + 1)), Fit (((k * (k - 1)).tdiv 2) + (k * (((l.length : Int) - k) + 1)))] ?_ (Sq hcx [] [62] [11] [] [Fit (next + (((k * (k - 1)).tdiv 2) + (k * (((l.length : Int) - k) + 1)))), Fit ((next + (((k * (k - 1)).tdiv 2) + (k * (((l.length : Int) - k) + 1)))) - 1), ((!(decide (((next + (((k * (k - 1)).tdiv 2) + (k * (((l.length : Int) - k) + 1)))) - 1) > 65536))) = true → ((!(decide (((next + (((k * (k - 1)).tdiv 2) + (k * (((l.length : Int) - k) + 1)))) - 1) > 65536))) = true)), ((!(decide (((next + (((k * (k - 1)).tdiv 2) + (k * (((l.length : Int) - k) + 1)))) - 1) > 65536))) = true → Fit (2 * (((k * (k - 1)).tdiv 2) + (k * (((l.length : Int) - k) + 1))))), ((!(decide (((next + (((k * (k - 1)).tdiv 2) + (k * (((l.length : Int) - k) + 1)))) - 1) > 65536))) = true → ((!(decide (((next + (((k * (k - 1)).tdiv 2) + (k * (((l.length : Int) - k) + 1)))) - 1) > 65536))) = true)), ((!(decide (((next + (((k * (k - 1)).tdiv 2) + (k * (((l.length : Int) - k) + 1)))) - 1) > 65536))) = true → ((!(decide (((next + (((k * (k - 1)).tdiv 2) + (k * (((l.length : Int) - k) + 1)))) - 1) > 65536))) = true)), ((!(decide (((next + (((k * (k - 1)).tdiv 2) + (k * (((l.length : Int) - k) + 1)))) - 1) > 65536))) = true → Fit ((2 * (((k * (k - 1)).tdiv 2) + (k * (((l.length : Int) - k) + 1)))) - (l.length : Int))), ((!(decide (((next + (((k * (k - 1)).tdiv 2) + (k * (((l.length : Int) - k) + 1)))) - 1) > 65536))) = true → ((!(decide (((next + (((k * (k - 1)).tdiv 2) + (k * (((l.length : Int) - k) + 1)))) - 1) > 65536))) = true)), ((!(decide (((next + (((k * (k - 1)).tdiv 2) + (k * (((l.length : Int) - k) + 1)))) - 1) > 65536))) = true → Fit (((2 * (((k * (k - 1)).tdiv 2) + (k * (((l.length : Int) - k) + 1)))) - (l.length : Int)) + 1)), ((!(decide (((next + (((k * (k - 1)).tdiv 2) + (k * (((l.length : Int) - k) + 1)))) - 1) > 65536))) = true → ((!(decide (((next + (((k * (k - 1)).tdiv 2) + (k * (((l.length : Int) - k) + 1)))) - 1) > 65536))) = true)), ((decide (((next + (((k * (k - 1)).tdiv 2) + (k * (((l.length : Int) - k) + 1)))) - 1) > 65536)) = false → (!(decide (((next + (((k * (k - 1)).tdiv 2) + (k * (((l.length : Int) - k) + 1)))) - 1) > 65536))) = true)] ?_ (Zi (b := (decide (((next + (((k * (k - 1)).tdiv 2) + (k * (((l.length : Int) - k) + 1)))) - 1) > 65536)) || (decide ((((2 * (((k * (k - 1)).tdiv 2) + (k * (((l.length : Int) - k) + 1)))) - (l.length : Int)) + 1) > 65536))) (fun h3 => ?_) fun h3 => ?_))))))
     ·
      refine ap ?_ (ap ?_ (ap ?_ (ap ?_ (ap ?_ (ap ?_ (ap ?_ az)))))) <;>
       first | omega | exact id | exact vcNot | exact vcG | exact vcH | (intro _; omega) | exact (fun _ h => h) | (intro h; simp at h; omega) | (simp only [List.length_cons, List.length_nil, List.length_append, List.length_map, List.length_set, List.length_replicate]; omega) | (intro h; simp [h]; done) | exact True.intro | exact ⟨hm1, hm2⟩ | (constructor <;> omega) | (intro _; constructor <;> omega) | exact ⟨by omega, by omega, by omega, by omega⟩ | exact ⟨by show (3 : Nat) ≤ 1000; decide, by simp only [List.length_append, List.length_cons, List.length_nil]; omega⟩ | exact ⟨by show (1 : Nat) ≤ 1000; decide, by simp only [List.length_append, List.length_cons, List.length_nil]; omega⟩ | done
     ·
      refine ap ?_ (ap ?_ (ap ?_ (ap ?_ (ap ?_ (ap ?_ (ap ?_ (ap ?_ (ap ?_ (ap ?_ (ap (by exact vcNot) az)))))))))) <;>
       first | omega | exact id | exact vcNot | exact vcG | exact vcH | (intro _; omega) | exact (fun _ h => h) | (intro h; simp at h; omega) | (simp only [List.length_cons, List.length_nil, List.length_append, List.length_map, List.length_set, List.length_replicate]; omega) | (intro h; simp [h]; done) | exact True.intro | exact ⟨hm1, hm2⟩ | (constructor <;> omega) | (intro _; constructor <;> omega) | exact ⟨by omega, by omega, by omega, by omega⟩ | exact ⟨by show (3 : Nat) ≤ 1000; decide, by simp only [List.length_append, List.length_cons, List.length_nil]; omega⟩ | exact ⟨by show (1 : Nat) ≤ 1000; decide, by simp only [List.length_append, List.length_cons, List.length_nil]; omega⟩ | done
     ·
      have hr := Cn.lr_big h0 h27 h31 h3
      exact Sz hcx [] [6, 7, 8] [62, 10, 0, 1, 2] [] (Zr (Fr (Fp 6 (.intss []) (Rv hcx (congrArg AV.tup (consE (congrArg AV.intss (show [] = (Cn.leastR l k next).1 from (by first | (rw [hr]; done) | (rw [hr, ← hil]; done)))) (consE (congrArg AV.int (show 0 = (Cn.leastR l k next).2.1 from (by first | (rw [hr]; done) | (rw [hr, ← hil]; done)))) (consE (congrArg AV.int (show 2 = (Cn.leastR l k next).2.2 from (by first | (rw [hr]; done) | (rw [hr, ← hil]; done)))) rfl)))) [] rfl))))
     ·
      have hr := Cn.lr_ok h0 h27 h31 h3
      refine Zk (Ft (Sz hcx [(1000, .to 612)] [12] [62] [] (Zs (Zv 612 0 701 24 (.intss []) (Tq hcx [] [13, 14] [] [] [(True)] ?_ (Ft (Zs (Sz hcx [] [65, 66] [10] [] (Zb (Zn [(612, .to 612), (701, .to 701)] [0, 1, 2, 12, 13, 14, 65, 66] (Lp (X := Nat) (fun x0 => x0 ≤ l.length) (fun x0 => ([(0, .ints l), (1, .int k), (2, .int ((Cn.cAb k next x0).2.2)), (12, .loc 612 0), (13, .clo 1000061 [.loc 612 0]), (14, .clo 80 [.pto [.int ((Cn.cAb k next x0).2.1)], .pto [.int ((Cn.cAb k next x0).1)]]), (65, .int (l.length : Int)), (66, .int (x0 : Int))], [(612, .box [.row 701]), (701, .row 24 (.intss (Cn.cntC l k next x0)))])) (fun x0 => l.length - x0) (0) ?_ (Ex 66 (congrArg AV.int (show 0 = (0 : Int) from (by first | rfl | omega | (simp; done)))) Eb) Hb fun i hI => ?_)))))))))))
      ·
       refine ap ?_ az
       first | omega | exact id | exact vcNot | exact vcG | exact vcH | (intro _; omega) | exact (fun _ h => h) | (intro h; simp at h; omega) | (simp only [List.length_cons, List.length_nil, List.length_append, List.length_map, List.length_set, List.length_replicate]; omega) | (intro h; simp [h]; done) | exact True.intro | exact ⟨hm1, hm2⟩ | (constructor <;> omega) | (intro _; constructor <;> omega) | exact ⟨by omega, by omega, by omega, by omega⟩ | exact ⟨by show (3 : Nat) ≤ 1000; decide, by simp only [List.length_append, List.length_cons, List.length_nil]; omega⟩ | exact ⟨by show (1 : Nat) ≤ 1000; decide, by simp only [List.length_append, List.length_cons, List.length_nil]; omega⟩ | done
      ·
       show 0 ≤ l.length
       omega
      ·
       replace hI : i ≤ l.length := hI
       obtain ⟨c1, c2, c3, c4, c5, c6⟩ := Cn.cAb_bd (k := k) (next := next) (by omega) ⟨g1, g2⟩ i (by omega)
       have hcl := Cn.cntC_len (l := l) (k := k) (next := next) (by omega) i
       have hbi := hb i
       refine Sz hcx [] [67] [] [] (Zs (Zj (p := ((i : Int) < (l.length : Int))) (fun h4 => ?_) fun h4 => ?_))
       ·
        refine Zk (Ft (Zs (Zb (Sz hcx [] [15] [67] [] (Sq hcx [] [16] [] [] [Fit ((i : Int) + 1)] ?_ (Sq hcx [] [17] [] [] [(True)] ?_ (Zs (Sz hcx [] [18] [] [] (Zb (Lp (X := Nat) (fun x0 => (x0 : Int) ≤ (min ((i : Int) + 1) k)) (fun x0 => ([(0, .ints l), (1, .int k), (2, .int ((Cn.cAb k next i).2.2)), (12, .loc 612 0), (13, .clo 1000061 [.loc 612 0]), (14, .clo 80 [.pto [.int ((Cn.cAb k next i).2.1)], .pto [.int ((Cn.cAb k next i).1)]]), (15, .int (i : Int)), (16, .int (min ((i : Int) + 1) k)), (17, .clo 80 [.pto [.int (min ((i : Int) + 1) k)], .pto [.int ((Cn.cAb k next i).2.2)]]), (18, .int ((x0 : Int) + 1)), (65, .int (l.length : Int)), (66, .int (i : Int))], [(612, .box [.row 701]), (701, .row 24 (.intss (Cn.cntC l k next i ++ Cn.regC (Cn.cAb k next i).2.2 (min ((i : Int) + 1) k) (Cn.cAb k next i).1 (Cn.cAb k next i).2.1 (l.getD i 0) x0)))])) (fun x0 => (min ((i : Int) + 1) k).toNat - x0) (0) ?_ (Ex 18 (congrArg AV.int (show 1 = ((0 : Int) + 1) from (by omega))) Eb) (Hx 701 (congrArg (fun x => AObj.row 24 (.intss x)) (show (Cn.cntC l k next i) = (Cn.cntC l k next i ++ Cn.regC (Cn.cAb k next i).2.2 (min ((i : Int) + 1) k) (Cn.cAb k next i).1 (Cn.cAb k next i).2.1 (l.getD i 0) 0) from (by exact (List.append_nil _).symm))) Hb) fun j hI => ?_))))))))))
        ·
         refine ap ?_ az
         first | omega | exact id | exact vcNot | exact vcG | exact vcH | (intro _; omega) | exact (fun _ h => h) | (intro h; simp at h; omega) | (simp only [List.length_cons, List.length_nil, List.length_append, List.length_map, List.length_set, List.length_replicate]; omega) | (intro h; simp [h]; done) | exact True.intro | exact ⟨hm1, hm2⟩ | (constructor <;> omega) | (intro _; constructor <;> omega) | exact ⟨by omega, by omega, by omega, by omega⟩ | exact ⟨by show (3 : Nat) ≤ 1000; decide, by simp only [List.length_append, List.length_cons, List.length_nil]; omega⟩ | exact ⟨by show (1 : Nat) ≤ 1000; decide, by simp only [List.length_append, List.length_cons, List.length_nil]; omega⟩ | done
        ·
         refine ap ?_ az
         first | omega | exact id | exact vcNot | exact vcG | exact vcH | (intro _; omega) | exact (fun _ h => h) | (intro h; simp at h; omega) | (simp only [List.length_cons, List.length_nil, List.length_append, List.length_map, List.length_set, List.length_replicate]; omega) | (intro h; simp [h]; done) | exact True.intro | exact ⟨hm1, hm2⟩ | (constructor <;> omega) | (intro _; constructor <;> omega) | exact ⟨by omega, by omega, by omega, by omega⟩ | exact ⟨by show (3 : Nat) ≤ 1000; decide, by simp only [List.length_append, List.length_cons, List.length_nil]; omega⟩ | exact ⟨by show (1 : Nat) ≤ 1000; decide, by simp only [List.length_append, List.length_cons, List.length_nil]; omega⟩ | done
        ·
         show (0 : Int) ≤ (min ((i : Int) + 1) k)
         omega
        ·
         try dsimp only at hI
         have hrl := Cn.regC_len (Cn.cAb k next i).2.2 (min ((i : Int) + 1) k) (Cn.cAb k next i).1 (Cn.cAb k next i).2.1 (l.getD i 0) j
         have hv1 := Cn.regV_bd (b := (Cn.cAb k next i).2.2) (m := (min ((i : Int) + 1) k)) (j := (j : Int) + 1) (B := 100000000) (by omega) (by omega) (by omega)
         refine Zs (Sz hcx [] [78] [] [] (Zj (p := (((j : Int) + 1) ≤ (min ((i : Int) + 1) k))) (fun h5 => ?_) fun h5 => ?_))
         ·
          have h78 := h5
          refine Zk (Ft (Zs (Zb (Sd hcx hmx [0, 0, 0, 6, 14, 0, 0, 110, 0, 0, 768, 1792, 4094, 8191] [(1013, .to 294), (612, .to 612)] [] [78] [701] [(-1000000000 ≤ ((Cn.cAb k next i).2.2) ∧ ((Cn.cAb k next i).2.2) ≤ 1000000000 ∧ -1000000000 ≤ ((j : Int) + 1) ∧ ((j : Int) + 1) ≤ 1000000000), Fit (-(Cn.regV ((Cn.cAb k next i).2.2) (min ((i : Int) + 1) k) ((j : Int) + 1))), (-1000000000 ≤ ((Cn.cAb k next i).1) ∧ ((Cn.cAb k next i).1) ≤ 1000000000 ∧ -1000000000 ≤ ((j : Int) + 1) ∧ ((j : Int) + 1) ≤ 1000000000), ((0 : Int) ≤ (i : Int) ∧ (i : Int) < (l.length : Int)), ([(-(Cn.regV ((Cn.cAb k next i).2.2) (min ((i : Int) + 1) k) ((j : Int) + 1))), (Cn.regV ((Cn.cAb k next i).1) ((Cn.cAb k next i).2.1) ((j : Int) + 1)), (l.getD i 0)].length ≤ 1000 ∧ (Cn.cntC l k next i ++ Cn.regC (Cn.cAb k next i).2.2 (min ((i : Int) + 1) k) (Cn.cAb k next i).1 (Cn.cAb k next i).2.1 (l.getD i 0) j).length ≤ 1000000000000)] ?_ (Sz hcx [] [96] [] [] (Zj (p := (((j : Int) + 1) > 1)) (fun h6 => ?_) fun h6 => ?_))))))
          ·
           refine ap ?_ (ap ?_ (ap ?_ (ap ?_ (ap ?_ az)))) <;>
            first | omega | exact id | exact vcNot | exact vcG | exact vcH | (intro _; omega) | exact (fun _ h => h) | (intro h; simp at h; omega) | (simp only [List.length_cons, List.length_nil, List.length_append, List.length_map, List.length_set, List.length_replicate]; omega) | (intro h; simp [h]; done) | exact True.intro | exact ⟨hm1, hm2⟩ | (constructor <;> omega) | (intro _; constructor <;> omega) | exact ⟨by omega, by omega, by omega, by omega⟩ | exact ⟨by show (3 : Nat) ≤ 1000; decide, by simp only [List.length_append, List.length_cons, List.length_nil]; omega⟩ | exact ⟨by show (1 : Nat) ≤ 1000; decide, by simp only [List.length_append, List.length_cons, List.length_nil]; omega⟩ | done
          ·
           have h96 := h6
           refine Tq hcx [(1013, .to 310), (612, .to 612)] [] [96] [294] [(-1000000000 ≤ ((Cn.cAb k next i).2.2) ∧ ((Cn.cAb k next i).2.2) ≤ 1000000000 ∧ -1000000000 ≤ ((j : Int) + 1) ∧ ((j : Int) + 1) ≤ 1000000000), Fit (-(Cn.regV ((Cn.cAb k next i).2.2) (min ((i : Int) + 1) k) ((j : Int) + 1))), (-1000000000 ≤ ((Cn.cAb k next i).1) ∧ ((Cn.cAb k next i).1) ≤ 1000000000 ∧ -1000000000 ≤ ((j : Int) + 1) ∧ ((j : Int) + 1) ≤ 1000000000), Fit (((j : Int) + 1) - 1), (-1000000000 ≤ ((Cn.cAb k next i).1) ∧ ((Cn.cAb k next i).1) ≤ 1000000000 ∧ -1000000000 ≤ (((j : Int) + 1) - 1) ∧ (((j : Int) + 1) - 1) ≤ 1000000000), ([(-(Cn.regV ((Cn.cAb k next i).2.2) (min ((i : Int) + 1) k) ((j : Int) + 1))), (Cn.regV ((Cn.cAb k next i).1) ((Cn.cAb k next i).2.1) ((j : Int) + 1)), (Cn.regV ((Cn.cAb k next i).1) ((Cn.cAb k next i).2.1) (((j : Int) + 1) - 1))].length ≤ 1000 ∧ ((Cn.cntC l k next i ++ Cn.regC (Cn.cAb k next i).2.2 (min ((i : Int) + 1) k) (Cn.cAb k next i).1 (Cn.cAb k next i).2.1 (l.getD i 0) j) ++ [Cn.nz [(-(Cn.regV ((Cn.cAb k next i).2.2) (min ((i : Int) + 1) k) ((j : Int) + 1))), (Cn.regV ((Cn.cAb k next i).1) ((Cn.cAb k next i).2.1) ((j : Int) + 1)), (l.getD i 0)]]).length ≤ 1000000000000)] ?_ (Fb (Ft (Tq hcx [] [18] [] [] [Fit (((j : Int) + 1) + 1)] ?_ (Fn [(612, .to 612), (310, .to 701)] [0, 1, 2, 12, 13, 14, 15, 16, 17, 18, 65, 66] (Lr (j + 1) ?_ ?_ (Ex 18 (congrArg AV.int (show (((j : Int) + 1) + 1) = (((j + 1) : Int) + 1) from (by omega))) Eb) (Hx 701 (congrArg (fun x => AObj.row 24 (.intss x)) (show (((Cn.cntC l k next i ++ Cn.regC (Cn.cAb k next i).2.2 (min ((i : Int) + 1) k) (Cn.cAb k next i).1 (Cn.cAb k next i).2.1 (l.getD i 0) j) ++ [Cn.nz [(-(Cn.regV ((Cn.cAb k next i).2.2) (min ((i : Int) + 1) k) ((j : Int) + 1))), (Cn.regV ((Cn.cAb k next i).1) ((Cn.cAb k next i).2.1) ((j : Int) + 1)), (l.getD i 0)]]) ++ [Cn.nz [(-(Cn.regV ((Cn.cAb k next i).2.2) (min ((i : Int) + 1) k) ((j : Int) + 1))), (Cn.regV ((Cn.cAb k next i).1) ((Cn.cAb k next i).2.1) ((j : Int) + 1)), (Cn.regV ((Cn.cAb k next i).1) ((Cn.cAb k next i).2.1) (((j : Int) + 1) - 1))]]) = (Cn.cntC l k next i ++ Cn.regC (Cn.cAb k next i).2.2 (min ((i : Int) + 1) k) (Cn.cAb k next i).1 (Cn.cAb k next i).2.1 (l.getD i 0) (j + 1)) from (by first | exact Cn.rn_1 h96 | exact Cn.rn_0 h96))) Hb))))))
           ·
            refine ap ?_ (ap ?_ (ap ?_ (ap ?_ (ap ?_ (ap ?_ az))))) <;>
             first | omega | exact id | exact vcNot | exact vcG | exact vcH | (intro _; omega) | exact (fun _ h => h) | (intro h; simp at h; omega) | (simp only [List.length_cons, List.length_nil, List.length_append, List.length_map, List.length_set, List.length_replicate]; omega) | (intro h; simp [h]; done) | exact True.intro | exact ⟨hm1, hm2⟩ | (constructor <;> omega) | (intro _; constructor <;> omega) | exact ⟨by omega, by omega, by omega, by omega⟩ | exact ⟨by show (3 : Nat) ≤ 1000; decide, by simp only [List.length_append, List.length_cons, List.length_nil]; omega⟩ | exact ⟨by show (1 : Nat) ≤ 1000; decide, by simp only [List.length_append, List.length_cons, List.length_nil]; omega⟩ | done
           ·
            refine ap ?_ az
            first | omega | exact id | exact vcNot | exact vcG | exact vcH | (intro _; omega) | exact (fun _ h => h) | (intro h; simp at h; omega) | (simp only [List.length_cons, List.length_nil, List.length_append, List.length_map, List.length_set, List.length_replicate]; omega) | (intro h; simp [h]; done) | exact True.intro | exact ⟨hm1, hm2⟩ | (constructor <;> omega) | (intro _; constructor <;> omega) | exact ⟨by omega, by omega, by omega, by omega⟩ | exact ⟨by show (3 : Nat) ≤ 1000; decide, by simp only [List.length_append, List.length_cons, List.length_nil]; omega⟩ | exact ⟨by show (1 : Nat) ≤ 1000; decide, by simp only [List.length_append, List.length_cons, List.length_nil]; omega⟩ | done
           ·
            try dsimp only
            omega
           ·
            try dsimp only
            omega
          ·
           have h96 := h6
           refine Zk (Fb (Ft (Tq hcx [] [18] [96] [] [Fit (((j : Int) + 1) + 1)] ?_ (Fn [(612, .to 612), (294, .to 701)] [0, 1, 2, 12, 13, 14, 15, 16, 17, 18, 65, 66] (Lr (j + 1) ?_ ?_ (Ex 18 (congrArg AV.int (show (((j : Int) + 1) + 1) = (((j + 1) : Int) + 1) from (by omega))) Eb) (Hx 701 (congrArg (fun x => AObj.row 24 (.intss x)) (show ((Cn.cntC l k next i ++ Cn.regC (Cn.cAb k next i).2.2 (min ((i : Int) + 1) k) (Cn.cAb k next i).1 (Cn.cAb k next i).2.1 (l.getD i 0) j) ++ [Cn.nz [(-(Cn.regV ((Cn.cAb k next i).2.2) (min ((i : Int) + 1) k) ((j : Int) + 1))), (Cn.regV ((Cn.cAb k next i).1) ((Cn.cAb k next i).2.1) ((j : Int) + 1)), (l.getD i 0)]]) = (Cn.cntC l k next i ++ Cn.regC (Cn.cAb k next i).2.2 (min ((i : Int) + 1) k) (Cn.cAb k next i).1 (Cn.cAb k next i).2.1 (l.getD i 0) (j + 1)) from (by first | exact Cn.rn_1 h96 | exact Cn.rn_0 h96))) Hb))))))
           ·
            refine ap ?_ az
            first | omega | exact id | exact vcNot | exact vcG | exact vcH | (intro _; omega) | exact (fun _ h => h) | (intro h; simp at h; omega) | (simp only [List.length_cons, List.length_nil, List.length_append, List.length_map, List.length_set, List.length_replicate]; omega) | (intro h; simp [h]; done) | exact True.intro | exact ⟨hm1, hm2⟩ | (constructor <;> omega) | (intro _; constructor <;> omega) | exact ⟨by omega, by omega, by omega, by omega⟩ | exact ⟨by show (3 : Nat) ≤ 1000; decide, by simp only [List.length_append, List.length_cons, List.length_nil]; omega⟩ | exact ⟨by show (1 : Nat) ≤ 1000; decide, by simp only [List.length_append, List.length_cons, List.length_nil]; omega⟩ | done
           ·
            try dsimp only
            omega
           ·
            try dsimp only
            omega
         ·
          have h78 := h5
          refine Ze (Fe (Fe (Fs (Ft (Tq hcx [] [2, 14] [78, 15, 16, 17, 18] [] [Fit ((Cn.cAb k next i).2.2 + (min ((i : Int) + 1) k))] ?_ (Fb (Ft (Tq hcx [] [66] [] [] [Fit ((i : Int) + 1)] ?_ (Lr (i + 1) ?_ ?_ (Ex 66 (congrArg AV.int (show ((i : Int) + 1) = ((i + 1) : Int) from (by first | rfl | omega | (simp; done)))) Eb) (Hx 701 (congrArg (fun x => AObj.row 24 (.intss x)) (show (Cn.cntC l k next i ++ Cn.regC (Cn.cAb k next i).2.2 (min ((i : Int) + 1) k) (Cn.cAb k next i).1 (Cn.cAb k next i).2.1 (l.getD i 0) j) = (Cn.cntC l k next (i + 1)) from (by exact Cn.cnt_next (by omega)))) Hb))))))))))
          ·
           refine ap ?_ az
           first | omega | exact id | exact vcNot | exact vcG | exact vcH | (intro _; omega) | exact (fun _ h => h) | (intro h; simp at h; omega) | (simp only [List.length_cons, List.length_nil, List.length_append, List.length_map, List.length_set, List.length_replicate]; omega) | (intro h; simp [h]; done) | exact True.intro | exact ⟨hm1, hm2⟩ | (constructor <;> omega) | (intro _; constructor <;> omega) | exact ⟨by omega, by omega, by omega, by omega⟩ | exact ⟨by show (3 : Nat) ≤ 1000; decide, by simp only [List.length_append, List.length_cons, List.length_nil]; omega⟩ | exact ⟨by show (1 : Nat) ≤ 1000; decide, by simp only [List.length_append, List.length_cons, List.length_nil]; omega⟩ | done
          ·
           refine ap ?_ az
           first | omega | exact id | exact vcNot | exact vcG | exact vcH | (intro _; omega) | exact (fun _ h => h) | (intro h; simp at h; omega) | (simp only [List.length_cons, List.length_nil, List.length_append, List.length_map, List.length_set, List.length_replicate]; omega) | (intro h; simp [h]; done) | exact True.intro | exact ⟨hm1, hm2⟩ | (constructor <;> omega) | (intro _; constructor <;> omega) | exact ⟨by omega, by omega, by omega, by omega⟩ | exact ⟨by show (3 : Nat) ≤ 1000; decide, by simp only [List.length_append, List.length_cons, List.length_nil]; omega⟩ | exact ⟨by show (1 : Nat) ≤ 1000; decide, by simp only [List.length_append, List.length_cons, List.length_nil]; omega⟩ | done
          ·
           show (i + 1) ≤ l.length
           omega
          ·
           show l.length - (i + 1) < l.length - i
           omega
       ·
        have h67 := h4
        have hil : i = l.length := by omega
        refine Ze (Fe (Fe (Fs (Ft (Sq hcx [(1005, .to 321), (612, .to 612)] [] [67, 0, 1, 13, 14, 65, 66] [701] [(-1000000000 ≤ ((Cn.cAb k next i).1) ∧ ((Cn.cAb k next i).1) ≤ 1000000000 ∧ -1000000000 ≤ k ∧ k ≤ 1000000000), ([(Cn.regV ((Cn.cAb k next i).1) ((Cn.cAb k next i).2.1) k)].length ≤ 1000 ∧ (Cn.cntC l k next i).length ≤ 1000000000000)] ?_ (Sz hcx [] [6, 7, 8] [2, 12] [612] (Zr (Fn [(321, .frz)] [6, 7, 8] (Rv hcx (congrArg AV.tup (consE (congrArg AV.intss (show ((Cn.cntC l k next i) ++ [Cn.nz [(Cn.regV ((Cn.cAb k next i).1) ((Cn.cAb k next i).2.1) k)]]) = (Cn.leastR l k next).1 from (by first | (rw [hr]; done) | (rw [hr, ← hil]; done)))) (consE (congrArg AV.int (show (Cn.cAb k next i).2.2 = (Cn.leastR l k next).2.1 from (by first | (rw [hr]; done) | (rw [hr, ← hil]; done)))) (consE (congrArg AV.int (show 0 = (Cn.leastR l k next).2.2 from (by first | (rw [hr]; done) | (rw [hr, ← hil]; done)))) rfl)))) [] rfl)))))))))
        ·
         refine ap ?_ (ap ?_ az) <;>
          first | omega | exact id | exact vcNot | exact vcG | exact vcH | (intro _; omega) | exact (fun _ h => h) | (intro h; simp at h; omega) | (simp only [List.length_cons, List.length_nil, List.length_append, List.length_map, List.length_set, List.length_replicate]; omega) | (intro h; simp [h]; done) | exact True.intro | exact ⟨hm1, hm2⟩ | (constructor <;> omega) | (intro _; constructor <;> omega) | exact ⟨by omega, by omega, by omega, by omega⟩ | exact ⟨by show (3 : Nat) ≤ 1000; decide, by simp only [List.length_append, List.length_cons, List.length_nil]; omega⟩ | exact ⟨by show (1 : Nat) ≤ 1000; decide, by simp only [List.length_append, List.length_cons, List.length_nil]; omega⟩ | done
 ·
  cases hσ
end Go.Proofs.YtkkapbnopmmmjaaDoor.En
namespace Go.Proofs.YtkkapbnopmmmjaaDoor.En
open Go Go.RowKit
def tyEnc : List (Nat × TD) := [(3, ⟨1, false, [.int .i64 0], [], none, 8, false, 1, 1⟩),
  (22, ⟨1, false, [.slice none 0 0], [], some 26, 24, false, 0, 0⟩),
  (24, ⟨1, false, [.slice none 0 0], [], some 3, 24, false, 0, 3⟩),
  (26, ⟨3, true, [.slice none 0 0, .slice none 0 0, .int .i64 0], [(0, 24), (1, 24), (2, 3)], none, 56, false, 0, 5⟩),
  (27, ⟨1, false, [.slice none 0 0], [], some 24, 24, false, 0, 0⟩),
  (28, ⟨1, false, [.int .i64 0], [], none, 8, false, 1, 1⟩),
  (42, ⟨1, false, [.nilFunc], [], none, 8, false, 0, 0⟩),
  (44, ⟨4, true, [.slice none 0 0, .slice none 0 0, .int .i64 0, .nilFunc], [(0, 26), (3, 42)], none, 64, false, 0, 0⟩),
  (45, ⟨1, false, [.nilFunc], [], none, 8, false, 0, 0⟩),
  (46, ⟨1, false, [.map none], [], none, 8, false, 10, 45⟩)]
theorem tyEnc_ok : AllTy Tryd.prog tyEnc := ⟨⟨by kernel_rfl, by kernel_rfl, by kernel_rfl⟩, ⟨by kernel_rfl, by kernel_rfl, by kernel_rfl⟩, ⟨by kernel_rfl, by kernel_rfl, by kernel_rfl⟩, ⟨by kernel_rfl, by kernel_rfl, by kernel_rfl⟩, ⟨by kernel_rfl, by kernel_rfl, by kernel_rfl⟩, ⟨by kernel_rfl, by kernel_rfl, by kernel_rfl⟩, ⟨by kernel_rfl, by kernel_rfl, by kernel_rfl⟩, ⟨by kernel_rfl, by kernel_rfl, by kernel_rfl⟩, ⟨by kernel_rfl, by kernel_rfl, by kernel_rfl⟩, ⟨by kernel_rfl, by kernel_rfl, by kernel_rfl⟩, trivial⟩
def cx_eEven : Cx := ⟨tyEnc, [], true⟩
theorem cx_eEven_ok : CxOk Tryd.prog cx_eEven := cx_ok tyEnc_ok trivial
def eEven_σ : CtF
  | [.agg [.im (.ls (.ints C)), .im (.ls (.ints L)), .im (.val (.int .i64 B)), .clo 15 [.pto [.val (.int .i64 g)]]]], [] => some (Cn.NormC C B, .tup [.int (Cn.evK C B), .bool (Cn.evB C)], [])
  | _, _ => none
theorem eEven_sound : Sound Tryd.prog 40 eEven_σ := by
 refine Sw (cx := cx_eEven) Tryd.f40 Tryd.func40 ?_
 intro wW wO wβ G0 args os p r outs hσ hp
 have hcx := cx_eEven_ok
 have hmx : Tryd.prog.follows .mixedOrders = true := by kernel_rfl
 unfold eEven_σ at hσ
 split at hσ
 ·
  rename_i C L B g
  cases hσ
  refine ⟨by kernel_rfl, ?_⟩
  have hn := hp
  have hl := hp.1
  have hb := Cn.nc_bd hp
  refine Sz hcx [(1000, .to 601)] [1] [0] [] (Zs (Sz hcx [] [8, 9, 10] [] [] (Zb (Lp (X := Nat) (fun x0 => x0 ≤ C.length ∧ ∀ j, j < x0 → C.getD j 0 = C.getD 0 0) (fun x0 => ([(1, .loc 601 0), (8, .ints C), (9, .int (C.length : Int)), (10, .int (x0 : Int))], [(601, .box [.ints C, .ints L, .int B, .clo 15 [.pto [.int g]]])])) (fun x0 => C.length - x0) (0) ?_ (Ex 10 (congrArg AV.int (show 0 = (0 : Int) from (by first | rfl | omega | (simp; done)))) Eb) Hb fun i hI => ?_))))
  ·
   exact ⟨Nat.zero_le _, fun j hj => by omega⟩
  ·
   try dsimp only at hI
   obtain ⟨hk, hok⟩ := hI
   refine Sz hcx [] [11] [] [] (Zs (Zj (p := ((i : Int) < (C.length : Int))) (fun h0 => ?_) fun h0 => ?_))
   ·
    refine Zk (Ft (Zs (Zb (Sq hcx [] [5] [11] [] [((0 : Int) ≤ (i : Int) ∧ (i : Int) < (C.length : Int))] ?_ (Sq hcx [] [20] [5] [] [((0 : Int) ≤ 0 ∧ 0 < (C.length : Int))] ?_ (Zi (b := (C.getD i 0) != (C.getD 0 0)) (fun h1 => ?_) fun h1 => ?_))))))
    ·
     refine ap ?_ az
     first | omega | exact id | exact vcNot | exact vcG | exact vcH | (intro _; omega) | exact (fun _ h => h) | (intro h; simp at h; omega) | (simp only [List.length_cons, List.length_nil, List.length_append, List.length_map, List.length_set, List.length_replicate]; omega) | (intro h; simp [h]; done) | (constructor <;> omega) | done
    ·
     refine ap ?_ az
     first | omega | exact id | exact vcNot | exact vcG | exact vcH | (intro _; omega) | exact (fun _ h => h) | (intro h; simp at h; omega) | (simp only [List.length_cons, List.length_nil, List.length_append, List.length_map, List.length_set, List.length_replicate]; omega) | (intro h; simp [h]; done) | (constructor <;> omega) | done
    ·
     replace h1 := bne_iff_ne.1 h1
     obtain ⟨e1, e2⟩ := Cn.ev_no (B := B) (by omega) h1
     exact Sz hcx [] [2, 3] [20, 1, 8, 9, 10] [601] (Zr (Fk (Fr (Fr (Fk (Fr (Rv hcx (congrArg AV.tup (consE (congrArg AV.int (show 0 = (Cn.evK C B) from (by first | exact e1.symm | exact e2.symm | (rw [e1, e2]; done)))) (consE (congrArg AV.bool (show false = (Cn.evB C) from (by first | exact e1.symm | exact e2.symm | (rw [e1, e2]; done)))) rfl))) [] rfl)))))))
    ·
     replace h1 := bneF h1
     have hq := h1
     refine Zk (Fb (Ft (Tq hcx [] [10] [20] [] [Fit ((i : Int) + 1)] ?_ (Lr (i + 1) ?_ ?_ (Ex 10 (congrArg AV.int (show ((i : Int) + 1) = ((i + 1) : Int) from (by first | rfl | omega | (simp; done)))) Eb) Hb))))
     ·
      refine ap ?_ az
      first | omega | exact id | exact vcNot | exact vcG | exact vcH | (intro _; omega) | exact (fun _ h => h) | (intro h; simp at h; omega) | (simp only [List.length_cons, List.length_nil, List.length_append, List.length_map, List.length_set, List.length_replicate]; omega) | (intro h; simp [h]; done) | (constructor <;> omega) | done
     ·
      exact ⟨by omega, fun j hj => by rcases (by omega : j < i ∨ j = i) with h | rfl; exact hok j h; exact hq⟩
     ·
      show C.length - (i + 1) < C.length - i
      omega
   ·
    refine Ze (Fe (Fe (Fs (Ft (Zs (Sz hcx [] [26] [11, 8, 9, 10] [] (Zu (a := (C.length : Int)) (b := 0) (fun h2 => ?_) fun h2 => ?_)))))))
    ·
     obtain ⟨e1, e2⟩ := Cn.ev_nil (B := B) h2
     exact Sz hcx [] [2, 3] [26, 1] [601] (Zr (Fr (Rv hcx (congrArg AV.tup (consE (congrArg AV.int (show 0 = (Cn.evK C B) from (by first | exact e1.symm | exact e2.symm | (rw [e1, e2]; done)))) (consE (congrArg AV.bool (show false = (Cn.evB C) from (by first | exact e1.symm | exact e2.symm | (rw [e1, e2]; done)))) rfl))) [] rfl)))
    ·
     have h26 := h2
     obtain ⟨e1, e2⟩ := Cn.ev_yes (B := B) (by omega) hok h26
     obtain ⟨c1, c2, c3, c4⟩ := Cn.nc_0 hn h26
     refine Zk (Ft (Sd hcx hmx [0, 1, 3, 7, 0, 16, 48, 112, 240, 511, 1023, 2047, 4095] [] [2, 3] [26, 1] [601] [Fit (B - 1), ((0 : Int) ≤ 0 ∧ 0 < (C.length : Int)), (((C.getD 0 0) : Int) ≠ 0 ∧ Fit ((B - 1).tdiv (C.getD 0 0))), Fit (((B - 1).tdiv (C.getD 0 0)) + 1)] ?_ (Zr (Rv hcx (congrArg AV.tup (consE (congrArg AV.int (show (((B - 1).tdiv (C.getD 0 0)) + 1) = (Cn.evK C B) from (by first | exact e1.symm | exact e2.symm | (rw [e1, e2]; done)))) (consE (congrArg AV.bool (show true = (Cn.evB C) from (by first | exact e1.symm | exact e2.symm | (rw [e1, e2]; done)))) rfl))) [] rfl))))
     ·
      refine ap ?_ (ap ?_ (ap ?_ (ap ?_ az))) <;>
       first | omega | exact id | exact vcNot | exact vcG | exact vcH | (intro _; omega) | exact (fun _ h => h) | (intro h; simp at h; omega) | (simp only [List.length_cons, List.length_nil, List.length_append, List.length_map, List.length_set, List.length_replicate]; omega) | (intro h; simp [h]; done) | (constructor <;> omega) | done
 ·
  cases hσ
def cx_eWay : Cx := ⟨tyEnc, [(40, (coeF [.agg [.ld (.ints []), .ld (.ints []), .id, .id]] eEven_σ))], true⟩
theorem cx_eWay_ok : CxOk Tryd.prog cx_eWay := cx_ok tyEnc_ok ⟨(eEven_sound.coe [.agg [.ld (.ints []), .ld (.ints []), .id, .id]] rfl), trivial⟩
def eWay_σ : CtF
  | [.agg [.im (.ls (.ints C)), .im (.ls (.ints L)), .im (.val (.int .i64 B)), .clo 15 [.pto [.val (.int .i64 g)]]]], [] => some (Cn.NormC C B, .int (Cn.wayP C B), [])
  | _, _ => none
theorem eWay_sound : Sound Tryd.prog 17 eWay_σ := by
 refine Sw (cx := cx_eWay) Tryd.f17 Tryd.func17 ?_
 intro wW wO wβ G0 args os p r outs hσ hp
 have hcx := cx_eWay_ok
 have hmx : Tryd.prog.follows .mixedOrders = true := by kernel_rfl
 unfold eWay_σ at hσ
 split at hσ
 ·
  rename_i C L B g
  cases hσ
  refine ⟨by kernel_rfl, ?_⟩
  have hn := hp
  have hl := hp.1
  have hb := Cn.nc_bd hp
  have hnk := fun h => Cn.nk_bd hn h
  have hfe := fun h => (Cn.ev_fact hn h).1
  refine Sz hcx [(1000, .to 601)] [1] [0] [] (Sq hcx [] [3, 4] [] [] [(Cn.NormC C B)] ?_ (Zs (Sz hcx [] [5] [] [] (Zb (Sq hcx [] [15] [] [] [(((C.length : Int) == 0) = true → (((C.length : Int) == 0) = true)), (((C.length : Int) == 0) = true → (((C.length : Int) == 0) = true)), (((C.length : Int) == 0) = true → (((C.length : Int) == 0) = true)), (((C.length : Int) == 0) = true → ((C.length : Int) == 0) = true)] ?_ (Zi (b := ((C.length : Int) == 0) && (B == 0)) (fun h0 => ?_) fun h0 => ?_))))))
  ·
   refine ap ?_ az
   first | omega | exact id | exact vcNot | exact vcG | exact vcH | (intro _; omega) | exact (fun _ h => h) | (intro h; simp at h; omega) | (simp only [List.length_cons, List.length_nil, List.length_append, List.length_map, List.length_set, List.length_replicate]; omega) | (intro h; simp [h]; done) | exact hp | (intro h8; have h9 := hfe h8; constructor <;> omega) | (intro h8; have h9 := hnk h8; constructor <;> omega) | done
  ·
   refine ap ?_ (ap ?_ (ap ?_ (ap (by exact id) az))) <;>
    first | omega | exact id | exact vcNot | exact vcG | exact vcH | (intro _; omega) | exact (fun _ h => h) | (intro h; simp at h; omega) | (simp only [List.length_cons, List.length_nil, List.length_append, List.length_map, List.length_set, List.length_replicate]; omega) | (intro h; simp [h]; done) | exact hp | (intro h8; have h9 := hfe h8; constructor <;> omega) | (intro h8; have h9 := hnk h8; constructor <;> omega) | done
  ·
   have hr := Cn.wy_5 h0
   exact Sz hcx [] [2] [15, 5, 3, 4, 1] [601] (Zr (Fk (Fr (Rv hcx (congrArg AV.int (show 5 = (Cn.wayP C B) from (by exact hr.symm))) [] rfl))))
  ·
   have h5_ := h0
   refine Sz hcx [] [24] [15] [] (Zu (a := (C.length : Int)) (b := 0) (fun h1 => ?_) fun h1 => ?_)
   ·
    have hr := Cn.wy_6 h5_ h1
    exact Sz hcx [] [2] [24, 5, 3, 4, 1] [601] (Zr (Fk (Fr (Rv hcx (congrArg AV.int (show 6 = (Cn.wayP C B) from (by exact hr.symm))) [] rfl))))
   ·
    have h6_ := h1
    refine Sd hcx hmx [0, 1, 3, 7, 15, 31, 63, 3, 131, 387, 1023, 2047, 4095] [] [27] [24, 1] [601] [((Cn.evB C) = true → ((Cn.evB C) = true)), ((Cn.evB C) = true → ((Cn.evB C) = true)), ((Cn.evB C) = true → ((Cn.evB C) = true)), ((Cn.evB C) = true → ((0 : Int) ≤ 0 ∧ 0 < (C.length : Int))), ((Cn.evB C) = true → ((Cn.evB C) = true)), ((Cn.evB C) = true → ((Cn.evB C) = true)), ((Cn.evB C) = true → ((Cn.evB C) = true)), ((Cn.evB C) = true → ((Cn.evB C) = true)), ((Cn.evB C) = true → ((Cn.evB C) = true)), ((Cn.evB C) = true → (Cn.evB C) = true)] ?_ (Zi (b := (Cn.evB C) && ((C.getD 0 0) == B)) (fun h2 => ?_) fun h2 => ?_)
    ·
     refine ap ?_ (ap ?_ (ap ?_ (ap ?_ (ap ?_ (ap ?_ (ap ?_ (ap ?_ (ap ?_ (ap (by exact id) az))))))))) <;>
      first | omega | exact id | exact vcNot | exact vcG | exact vcH | (intro _; omega) | exact (fun _ h => h) | (intro h; simp at h; omega) | (simp only [List.length_cons, List.length_nil, List.length_append, List.length_map, List.length_set, List.length_replicate]; omega) | (intro h; simp [h]; done) | exact hp | (intro h8; have h9 := hfe h8; constructor <;> omega) | (intro h8; have h9 := hnk h8; constructor <;> omega) | done
    ·
     have hr := Cn.wy_1 h6_ h2
     exact Sz hcx [] [2] [27, 5, 3, 4] [] (Zr (Fk (Fr (Rv hcx (congrArg AV.int (show 1 = (Cn.wayP C B) from (by exact hr.symm))) [] rfl))))
    ·
     have h1_ := h2
     refine Sq hcx [] [40] [27] [] [((Cn.evB C) = true → ((Cn.evB C) = true)), ((Cn.evB C) = true → (Cn.evB C) = true)] ?_ (Zi (b := (Cn.evB C) && (decide ((C.length : Int) ≤ 10))) (fun h3 => ?_) fun h3 => ?_)
     ·
      refine ap ?_ (ap (by exact id) az)
      first | omega | exact id | exact vcNot | exact vcG | exact vcH | (intro _; omega) | exact (fun _ h => h) | (intro h; simp at h; omega) | (simp only [List.length_cons, List.length_nil, List.length_append, List.length_map, List.length_set, List.length_replicate]; omega) | (intro h; simp [h]; done) | exact hp | (intro h8; have h9 := hfe h8; constructor <;> omega) | (intro h8; have h9 := hnk h8; constructor <;> omega) | done
     ·
      have hr := Cn.wy_2 h6_ h1_ h3
      exact Sz hcx [] [2] [40, 5, 3, 4] [] (Zr (Fk (Fr (Rv hcx (congrArg AV.int (show 2 = (Cn.wayP C B) from (by exact hr.symm))) [] rfl))))
     ·
      have h2_ := h3
      refine Sq hcx [] [46] [40, 5, 3, 4] [] [((Cn.evB C) = true → ((Cn.evB C) = true)), ((Cn.evB C) = true → ((Cn.evB C) = true)), ((Cn.evB C) = true → Fit ((C.length : Int) * (Cn.evK C B))), ((Cn.evB C) = true → ((Cn.evB C) = true)), ((Cn.evB C) = true → (Cn.evB C) = true)] ?_ (Zi (b := (Cn.evB C) && (decide (((C.length : Int) * (Cn.evK C B)) ≤ 400))) (fun h4 => ?_) fun h4 => ?_)
      ·
       refine ap ?_ (ap ?_ (ap ?_ (ap ?_ (ap (by exact id) az)))) <;>
        first | omega | exact id | exact vcNot | exact vcG | exact vcH | (intro _; omega) | exact (fun _ h => h) | (intro h; simp at h; omega) | (simp only [List.length_cons, List.length_nil, List.length_append, List.length_map, List.length_set, List.length_replicate]; omega) | (intro h; simp [h]; done) | exact hp | (intro h8; have h9 := hfe h8; constructor <;> omega) | (intro h8; have h9 := hnk h8; constructor <;> omega) | done
      ·
       have hr := Cn.wy_3 h6_ h1_ h2_ h4
       exact Sz hcx [] [2] [46] [] (Zr (Fk (Fr (Rv hcx (congrArg AV.int (show 3 = (Cn.wayP C B) from (by exact hr.symm))) [] rfl))))
      ·
       have hr := Cn.wy_4 h6_ h1_ h2_ h4
       exact Zk (Fb (Ft (Sz hcx [] [2] [46] [] (Zr (Rv hcx (congrArg AV.int (show 4 = (Cn.wayP C B) from (by exact hr.symm))) [] rfl)))))
 ·
  cases hσ
def cx_eGrd : Cx := ⟨tyEnc, [], true⟩
theorem cx_eGrd_ok : CxOk Tryd.prog cx_eGrd := cx_ok tyEnc_ok trivial
def eGrd_σ : CtF
  | [.im (.ls (.intss c)), .pto [.val (.int .i64 g)]], [] => some (c.length ≤ 1000000000 ∧ (∀ l ∈ c, l.length ≤ 1000000000) ∧ -65537 ≤ g ∧ g ≤ 65537, .row 0, [some (.row 24 (.intss (Cn.grd g c)))])
  | _, _ => none
theorem eGrd_sound : Sound Tryd.prog 15 eGrd_σ := by
 refine Sw (cx := cx_eGrd) Tryd.f15 Tryd.func15 ?_
 intro wW wO wβ G0 args os p r outs hσ hp
 have hcx := cx_eGrd_ok
 unfold eGrd_σ at hσ
 split at hσ
 ·
  rename_i c g
  cases hσ
  refine ⟨by kernel_rfl, ?_⟩
  obtain ⟨hm1, hm2, hg1, hg2⟩ := hp
  have hb := fun i (h : i < c.length) => hm2 _ (Cn.getD_memL (d := ([] : List Int)) (k := i) h)
  refine Sz hcx [] [3] [] [] (Zs (Sz hcx [] [7, 8, 9] [0] [] (Zb (Zw 3 700 24 (.intss []) (Lp (X := Nat) (fun x0 => x0 ≤ c.length) (fun x0 => ([(1, .pto [.int g]), (3, .row 700), (7, .intss c), (8, .int (c.length : Int)), (9, .int (x0 : Int))], [(700, .row 24 (.intss (Cn.grd g (c.take x0))))])) (fun x0 => c.length - x0) (0) ?_ (Ex 9 (congrArg AV.int (show 0 = (0 : Int) from (by first | rfl | omega | (simp; done)))) Eb) Hb fun i hI => ?_)))))
  ·
   show 0 ≤ c.length
   omega
  ·
   replace hI : i ≤ c.length := hI
   have hbi := hb i
   have hgl := Cn.grd_tk g c i
   refine Sz hcx [] [10] [] [] (Zs (Zj (p := ((i : Int) < (c.length : Int))) (fun h0 => ?_) fun h0 => ?_))
   ·
    refine Zk (Ft (Zs (Zb (Sq hcx [] [5] [10] [] [((0 : Int) ≤ (i : Int) ∧ (i : Int) < (c.length : Int))] ?_ (Sq hcx [(1003, .to 216)] [6] [] [] [Fit (((c.getD i []).length : Int) + 1), ((0 : Int) ≤ 0 ∧ 0 ≤ ((((c.getD i []).length : Int) + 1) : Int) ∧ (((c.getD i []).length) + 1) * 8 ≤ 140737488355328)] ?_ (Zs (Sz hcx [] [18] [] [] (Zx (a := g) (b := 0) (fun h1 => ?_) fun h1 => ?_))))))))
    ·
     refine ap ?_ az
     first | omega | exact id | exact vcNot | exact vcG | exact vcH | (intro _; omega) | exact (fun _ h => h) | (intro h; simp at h; omega) | (simp only [List.length_cons, List.length_nil, List.length_append, List.length_map, List.length_set, List.length_replicate]; omega) | (intro h; simp [h]; done) | (have h8 := hbi (by omega); constructor <;> omega) | (have h8 := hbi (by omega); refine ⟨by omega, by omega, by omega⟩) | (have h8 := hbi (by omega); simp only [List.length_cons, List.length_nil, List.length_append]; omega) | (constructor <;> omega) | done
    ·
     refine ap ?_ (ap ?_ az) <;>
      first | omega | exact id | exact vcNot | exact vcG | exact vcH | (intro _; omega) | exact (fun _ h => h) | (intro h; simp at h; omega) | (simp only [List.length_cons, List.length_nil, List.length_append, List.length_map, List.length_set, List.length_replicate]; omega) | (intro h; simp [h]; done) | (have h8 := hbi (by omega); constructor <;> omega) | (have h8 := hbi (by omega); refine ⟨by omega, by omega, by omega⟩) | (have h8 := hbi (by omega); simp only [List.length_cons, List.length_nil, List.length_append]; omega) | (constructor <;> omega) | done
    ·
     have h18 := h1
     refine Tq hcx [(1004, .to 216)] [6] [18] [216] [Fit (-g), ((([] : List Int).length + [(-g)].length) * 8 ≤ 140737488355328)] ?_ (Ft (Tq hcx [(1005, .to 700)] [3] [6, 5] [216, 700] [((([] ++ [(-g)]).length + (c.getD i []).length) * 8 ≤ 140737488355328), (((Cn.grd g (c.take i)).length + [(([] ++ [(-g)]) ++ (c.getD i []))].length) * 24 ≤ 140737488355328)] ?_ (Fb (Ft (Tq hcx [] [9] [] [] [Fit ((i : Int) + 1)] ?_ (Lr (i + 1) ?_ ?_ (Ex 9 (congrArg AV.int (show ((i : Int) + 1) = ((i + 1) : Int) from (by first | rfl | omega | (simp; done)))) Eb) (Hx 700 (congrArg (fun x => AObj.row 24 (.intss x)) (show ((Cn.grd g (c.take i)) ++ [(([] ++ [(-g)]) ++ (c.getD i []))]) = (Cn.grd g (c.take (i + 1))) from (by first | exact Cn.gn_1 (by omega) h18 | exact Cn.gn_0 (by omega) h18))) Hb)))))))
     ·
      refine ap ?_ (ap ?_ az) <;>
       first | omega | exact id | exact vcNot | exact vcG | exact vcH | (intro _; omega) | exact (fun _ h => h) | (intro h; simp at h; omega) | (simp only [List.length_cons, List.length_nil, List.length_append, List.length_map, List.length_set, List.length_replicate]; omega) | (intro h; simp [h]; done) | (have h8 := hbi (by omega); constructor <;> omega) | (have h8 := hbi (by omega); refine ⟨by omega, by omega, by omega⟩) | (have h8 := hbi (by omega); simp only [List.length_cons, List.length_nil, List.length_append]; omega) | (constructor <;> omega) | done
     ·
      refine ap ?_ (ap ?_ az) <;>
       first | omega | exact id | exact vcNot | exact vcG | exact vcH | (intro _; omega) | exact (fun _ h => h) | (intro h; simp at h; omega) | (simp only [List.length_cons, List.length_nil, List.length_append, List.length_map, List.length_set, List.length_replicate]; omega) | (intro h; simp [h]; done) | (have h8 := hbi (by omega); constructor <;> omega) | (have h8 := hbi (by omega); refine ⟨by omega, by omega, by omega⟩) | (have h8 := hbi (by omega); simp only [List.length_cons, List.length_nil, List.length_append]; omega) | (constructor <;> omega) | done
     ·
      refine ap ?_ az
      first | omega | exact id | exact vcNot | exact vcG | exact vcH | (intro _; omega) | exact (fun _ h => h) | (intro h; simp at h; omega) | (simp only [List.length_cons, List.length_nil, List.length_append, List.length_map, List.length_set, List.length_replicate]; omega) | (intro h; simp [h]; done) | (have h8 := hbi (by omega); constructor <;> omega) | (have h8 := hbi (by omega); refine ⟨by omega, by omega, by omega⟩) | (have h8 := hbi (by omega); simp only [List.length_cons, List.length_nil, List.length_append]; omega) | (constructor <;> omega) | done
     ·
      show (i + 1) ≤ c.length
      omega
     ·
      show c.length - (i + 1) < c.length - i
      omega
    ·
     have h18 := h1
     refine Zk (Ft (Tq hcx [(1005, .to 700)] [3] [18, 6, 5] [216, 700] [((([] : List Int).length + (c.getD i []).length) * 8 ≤ 140737488355328), (((Cn.grd g (c.take i)).length + [([] ++ (c.getD i []))].length) * 24 ≤ 140737488355328)] ?_ (Fb (Ft (Tq hcx [] [9] [] [] [Fit ((i : Int) + 1)] ?_ (Lr (i + 1) ?_ ?_ (Ex 9 (congrArg AV.int (show ((i : Int) + 1) = ((i + 1) : Int) from (by first | rfl | omega | (simp; done)))) Eb) (Hx 700 (congrArg (fun x => AObj.row 24 (.intss x)) (show ((Cn.grd g (c.take i)) ++ [([] ++ (c.getD i []))]) = (Cn.grd g (c.take (i + 1))) from (by first | exact Cn.gn_1 (by omega) h18 | exact Cn.gn_0 (by omega) h18))) Hb)))))))
     ·
      refine ap ?_ (ap ?_ az) <;>
       first | omega | exact id | exact vcNot | exact vcG | exact vcH | (intro _; omega) | exact (fun _ h => h) | (intro h; simp at h; omega) | (simp only [List.length_cons, List.length_nil, List.length_append, List.length_map, List.length_set, List.length_replicate]; omega) | (intro h; simp [h]; done) | (have h8 := hbi (by omega); constructor <;> omega) | (have h8 := hbi (by omega); refine ⟨by omega, by omega, by omega⟩) | (have h8 := hbi (by omega); simp only [List.length_cons, List.length_nil, List.length_append]; omega) | (constructor <;> omega) | done
     ·
      refine ap ?_ az
      first | omega | exact id | exact vcNot | exact vcG | exact vcH | (intro _; omega) | exact (fun _ h => h) | (intro h; simp at h; omega) | (simp only [List.length_cons, List.length_nil, List.length_append, List.length_map, List.length_set, List.length_replicate]; omega) | (intro h; simp [h]; done) | (have h8 := hbi (by omega); constructor <;> omega) | (have h8 := hbi (by omega); refine ⟨by omega, by omega, by omega⟩) | (have h8 := hbi (by omega); simp only [List.length_cons, List.length_nil, List.length_append]; omega) | (constructor <;> omega) | done
     ·
      show (i + 1) ≤ c.length
      omega
     ·
      show c.length - (i + 1) < c.length - i
      omega
   ·
    exact Ze (Fe (Fe (Fs (Ft (Sz hcx [] [3] [10, 1, 7, 8, 9] [] (Zr (Fn [(700, .to 0)] [3] (Rv hcx rfl [true] (consO (congrArg some (congrArg (fun x => AObj.row 24 (.intss x)) (show (Cn.grd g (c.take i)) = (Cn.grd g c) from (by (rw [show i = c.length by omega, List.take_length]))))) rfl)))))))))
 ·
  cases hσ
def cx_eClause : Cx := ⟨tyEnc, [(15, (coeF [.ld (.intss []), .id] eGrd_σ))], true⟩
theorem cx_eClause_ok : CxOk Tryd.prog cx_eClause := cx_ok tyEnc_ok ⟨(eGrd_sound.coe [.ld (.intss []), .id] rfl), trivial⟩
def eClause_σ : CtF
  | [.agg [.im (.ls (.ints C)), .im (.ls (.ints L)), .im (.val (.int .i64 B)), .clo 15 [.pto [.val (.int .i64 g)]]], .im (.val (.int .i64 next))], [] => some (L.length ≤ 1000000 ∧ -65537 ≤ g ∧ g ≤ 65537, .tup [.row 0, .int next, .int 0], [some (.row 24 (.intss (Cn.grd g [L])))])
  | _, _ => none
theorem eClause_sound : Sound Tryd.prog 34 eClause_σ := by
 refine Sw (cx := cx_eClause) Tryd.f34 Tryd.func34 ?_
 intro wW wO wβ G0 args os p r outs hσ hp
 have hcx := cx_eClause_ok
 unfold eClause_σ at hσ
 split at hσ
 ·
  rename_i C L B g next
  cases hσ
  refine ⟨by kernel_rfl, ?_⟩
  obtain ⟨hm1, hg1, hg2⟩ := hp
  refine Sz hcx [(1000, .to 602)] [2] [0] [] (Sq hcx [(1006, .to 213)] [4, 5, 6] [2, 1] [602] [([L].length ≤ 1000000000 ∧ (∀ l ∈ [L], l.length ≤ 1000000000) ∧ -65537 ≤ g ∧ g ≤ 65537)] ?_ (Zr (Fn [(213, .to 0)] [4, 5, 6] (Ru hcx [true]))))
  ·
   refine ap ?_ az
   first | omega | exact id | exact vcNot | exact vcG | exact vcH | (intro _; omega) | exact (fun _ h => h) | (intro h; simp at h; omega) | (simp only [List.length_cons, List.length_nil, List.length_append, List.length_map, List.length_set, List.length_replicate]; omega) | (intro h; simp [h]; done) | exact ⟨by show (1 : Nat) ≤ 1000000000; decide, fun x hx => by rw [List.mem_singleton.1 hx]; first | omega | exact Nat.zero_le _, hg1, hg2⟩ | done
 ·
  cases hσ
def cx_eNothing : Cx := ⟨tyEnc, [], true⟩
theorem cx_eNothing_ok : CxOk Tryd.prog cx_eNothing := cx_ok tyEnc_ok trivial
def eNothing_σ : CtF
  | [.agg [.im (.ls (.ints C)), .im (.ls (.ints L)), .im (.val (.int .i64 B)), .clo 15 [.pto [.val (.int .i64 g)]]], .im (.val (.int .i64 next))], [] => some (True, .tup [.im (.val (.slice none 0 0)), .int next, .int 0], [])
  | _, _ => none
theorem eNothing_sound : Sound Tryd.prog 38 eNothing_σ := by
 refine Sw (cx := cx_eNothing) Tryd.f38 Tryd.func38 ?_
 intro wW wO wβ G0 args os p r outs hσ hp
 have hcx := cx_eNothing_ok
 unfold eNothing_σ at hσ
 split at hσ
 ·
  rename_i C L B g next
  cases hσ
  refine ⟨by kernel_rfl, ?_⟩
  exact Sz hcx [] [] [0] [] (Sz hcx [] [4, 5, 6] [1] [] (Zr (Ru hcx [])))
 ·
  cases hσ
def cx_eNever : Cx := ⟨tyEnc, [(15, (coeF [.ld (.intss []), .id] eGrd_σ))], true⟩
theorem cx_eNever_ok : CxOk Tryd.prog cx_eNever := cx_ok tyEnc_ok ⟨(eGrd_sound.coe [.ld (.intss []), .id] rfl), trivial⟩
def eNever_σ : CtF
  | [.agg [.im (.ls (.ints C)), .im (.ls (.ints L)), .im (.val (.int .i64 B)), .clo 15 [.pto [.val (.int .i64 g)]]], .im (.val (.int .i64 next))], [] => some (-65537 ≤ g ∧ g ≤ 65537, .tup [.row 0, .int next, .int 0], [some (.row 24 (.intss (Cn.grd g [[]])))])
  | _, _ => none
theorem eNever_sound : Sound Tryd.prog 39 eNever_σ := by
 refine Sw (cx := cx_eNever) Tryd.f39 Tryd.func39 ?_
 intro wW wO wβ G0 args os p r outs hσ hp
 have hcx := cx_eNever_ok
 unfold eNever_σ at hσ
 split at hσ
 ·
  rename_i C L B g next
  cases hσ
  refine ⟨by kernel_rfl, ?_⟩
  obtain ⟨hg1, hg2⟩ := hp
  refine Sz hcx [(1000, .to 602)] [2] [0] [] (Sq hcx [(1004, .to 211)] [4, 5, 6] [2, 1] [602] [(([[]] : List (List Int)).length ≤ 1000000000 ∧ (∀ l ∈ ([[]] : List (List Int)), l.length ≤ 1000000000) ∧ -65537 ≤ g ∧ g ≤ 65537)] ?_ (Zr (Fn [(211, .to 0)] [4, 5, 6] (Rv hcx rfl [true] (consO (congrArg some (congrArg (fun x => AObj.row 24 (.intss x)) (show (Cn.grd g ([[]] : List (List Int))) = (Cn.grd g [[]]) from (by first | rfl | (simp; done))))) rfl)))))
  ·
   refine ap ?_ az
   first | omega | exact id | exact vcNot | exact vcG | exact vcH | (intro _; omega) | exact (fun _ h => h) | (intro h; simp at h; omega) | (simp only [List.length_cons, List.length_nil, List.length_append, List.length_map, List.length_set, List.length_replicate]; omega) | (intro h; simp [h]; done) | exact ⟨by show (1 : Nat) ≤ 1000000000; decide, fun x hx => by rw [List.mem_singleton.1 hx]; first | omega | exact Nat.zero_le _, hg1, hg2⟩ | done
 ·
  cases hσ
def cx_eTotal : Cx := ⟨tyEnc, [(40, (coeF [.agg [.ld (.ints []), .ld (.ints []), .id, .id]] eEven_σ)), (15, (coeF [.ld (.intss []), .id] eGrd_σ)), (48, (coeF [.ld (.ints []), .id, .id] tTot_σ))], true⟩
theorem cx_eTotal_ok : CxOk Tryd.prog cx_eTotal := cx_ok tyEnc_ok ⟨(eEven_sound.coe [.agg [.ld (.ints []), .ld (.ints []), .id, .id]] rfl), (eGrd_sound.coe [.ld (.intss []), .id] rfl), (tTot_sound.coe [.ld (.ints []), .id, .id] rfl), trivial⟩
def eTotal_σ : CtF
  | [.agg [.im (.ls (.ints C)), .im (.ls (.ints L)), .im (.val (.int .i64 B)), .clo 15 [.pto [.val (.int .i64 g)]]], .im (.val (.int .i64 next))], [] => some (Cn.NormC C B ∧ Cn.evB C = true ∧ L.length = C.length ∧ (∀ x ∈ L, x ≠ 0 ∧ -65536 ≤ x ∧ x ≤ 65536) ∧ Fit next ∧ -65537 ≤ g ∧ g ≤ 65537, .tup [.intss ((Cn.encT C L B g next).1), .int ((Cn.encT C L B g next).2.1), .int ((Cn.encT C L B g next).2.2)], [])
  | _, _ => none
theorem eTotal_sound : Sound Tryd.prog 35 eTotal_σ := by
 refine Sw (cx := cx_eTotal) Tryd.f35 Tryd.func35 ?_
 intro wW wO wβ G0 args os p r outs hσ hp
 have hcx := cx_eTotal_ok
 have hmx : Tryd.prog.follows .mixedOrders = true := by kernel_rfl
 unfold eTotal_σ at hσ
 split at hσ
 ·
  rename_i C L B g next
  cases hσ
  refine ⟨by kernel_rfl, ?_⟩
  obtain ⟨hn, he, hLC, hx1, hf, hg1, hg2⟩ := hp
  have hl := hn.1
  have hx2 : ∀ x ∈ L, -65537 ≤ x ∧ x ≤ 65537 := fun x hx => by have := hx1 x hx; omega
  obtain ⟨f1, f2, f3, f4, f5, f6, f7⟩ := Cn.ev_fact hn he
  have htl := Cn.tr_len (next := next) (k := Cn.evK C B) hx2
  refine Sz hcx [(1000, .to 602)] [2] [0] [] (Sq hcx [] [7] [] [] [(Cn.NormC C B)] ?_ (Sq hcx [(1005, .to 224)] [9, 10, 11, 12] [1] [] [(L.length ≤ maxLen ∧ (∀ x ∈ L, -65537 ≤ x ∧ x ≤ 65537) ∧ Fit (Cn.evK C B) ∧ Fit next)] ?_ (Zs (Sz hcx [] [30] [] [] (Zx (a := ((Cn.totR (Cn.evK C B) L next).2.2.2)) (b := 0) (fun h0 => ?_) fun h0 => ?_)))))
  ·
   refine ap ?_ az
   first | omega | exact id | exact vcNot | exact vcG | exact vcH | (intro _; omega) | exact (fun _ h => h) | (intro h; simp at h; omega) | (simp only [List.length_cons, List.length_nil, List.length_append, List.length_map, List.length_set, List.length_replicate]; omega) | (intro h; simp [h]; done) | exact hn | exact True.intro | exact ⟨by unfold maxLen; omega, hx2, by unfold Fit; omega, hf⟩ | exact ⟨by unfold maxLen; omega, hx3, by unfold Fit; omega, hf⟩ | (constructor <;> omega) | exact ⟨by show (1 : Nat) ≤ 1000000000; decide, fun x hx => by rw [List.mem_singleton.1 hx, List.length_drop, List.length_take]; omega, hg1, hg2⟩ | (rw [Cn.grd_len]; simp only [List.length_cons, List.length_nil]; omega) | done
  ·
   refine ap ?_ az
   first | omega | exact id | exact vcNot | exact vcG | exact vcH | (intro _; omega) | exact (fun _ h => h) | (intro h; simp at h; omega) | (simp only [List.length_cons, List.length_nil, List.length_append, List.length_map, List.length_set, List.length_replicate]; omega) | (intro h; simp [h]; done) | exact hn | exact True.intro | exact ⟨by unfold maxLen; omega, hx2, by unfold Fit; omega, hf⟩ | exact ⟨by unfold maxLen; omega, hx3, by unfold Fit; omega, hf⟩ | (constructor <;> omega) | exact ⟨by show (1 : Nat) ≤ 1000000000; decide, fun x hx => by rw [List.mem_singleton.1 hx, List.length_drop, List.length_take]; omega, hg1, hg2⟩ | (rw [Cn.grd_len]; simp only [List.length_cons, List.length_nil]; omega) | done
  ·
   have hr := Cn.et_err (g := g) h0
   exact Sz hcx [] [4, 5, 6] [30, 9, 10, 11, 12, 7, 2] [224, 602] (Zr (Fr (Fp 4 (.intss []) (Rv hcx (congrArg AV.tup (consE (congrArg AV.intss (show [] = (Cn.encT C L B g next).1 from (by first | (rw [hr]; done) | (rw [hr]; exact h0)))) (consE (congrArg AV.int (show 0 = (Cn.encT C L B g next).2.1 from (by first | (rw [hr]; done) | (rw [hr]; exact h0)))) (consE (congrArg AV.int (show (Cn.totR (Cn.evK C B) L next).2.2.2 = (Cn.encT C L B g next).2.2 from (by first | (rw [hr]; done) | (rw [hr]; exact h0)))) rfl)))) [] rfl))))
  ·
   have h0 : (Cn.totR (Cn.evK C B) L next).2.2.2 = 0 := by have := h0; omega
   have hr := Cn.et_ok (g := g) h0
   have hok := Cn.tr_ok f4 (by omega) h0
   have hol : ((Cn.totR (Cn.evK C B) L next).1.length : Int) = Cn.evK C B := by rw [hok.2]; exact Cn.tot_olen f4 (by omega) hok.1
   refine Zk (Ft (Sd hcx hmx [0, 0, 2, 0, 0, 16, 0, 120, 248, 510, 1023, 0, 0, 2047, 12287, 32767] [(1010, .to 224)] [4, 5, 6] [30, 9, 10, 11, 12, 7, 2] [224, 602] [Fit ((Cn.evK C B) - 1), ((0 : Int) ≤ ((Cn.evK C B) - 1) ∧ ((Cn.evK C B) - 1) ≤ (Cn.evK C B) ∧ (Cn.evK C B) ≤ (((Cn.totR (Cn.evK C B) L next).1).length : Int)), ([((((Cn.totR (Cn.evK C B) L next).1).take ((Cn.evK C B).toNat)).drop (((Cn.evK C B) - 1).toNat))].length ≤ 1000000000 ∧ (∀ l ∈ [((((Cn.totR (Cn.evK C B) L next).1).take ((Cn.evK C B).toNat)).drop (((Cn.evK C B) - 1).toNat))], l.length ≤ 1000000000) ∧ -65537 ≤ g ∧ g ≤ 65537), ((((Cn.totR (Cn.evK C B) L next).2.1).length + (Cn.grd g [((((Cn.totR (Cn.evK C B) L next).1).take ((Cn.evK C B).toNat)).drop (((Cn.evK C B) - 1).toNat))]).length) * 24 ≤ 140737488355328)] ?_ (Zr (Fn [(224, .frz)] [4, 5, 6] (Rv hcx (congrArg AV.tup (consE (congrArg AV.intss (show (((Cn.totR (Cn.evK C B) L next).2.1) ++ (Cn.grd g [((((Cn.totR (Cn.evK C B) L next).1).take ((Cn.evK C B).toNat)).drop (((Cn.evK C B) - 1).toNat))])) = (Cn.encT C L B g next).1 from (by first | (rw [hr]; done) | (rw [hr]; exact h0)))) (consE (congrArg AV.int (show (Cn.totR (Cn.evK C B) L next).2.2.1 = (Cn.encT C L B g next).2.1 from (by first | (rw [hr]; done) | (rw [hr]; exact h0)))) (consE (congrArg AV.int (show (Cn.totR (Cn.evK C B) L next).2.2.2 = (Cn.encT C L B g next).2.2 from (by first | (rw [hr]; done) | (rw [hr]; exact h0)))) rfl)))) [] rfl)))))
   ·
    refine ap ?_ (ap ?_ (ap ?_ (ap ?_ az))) <;>
     first | omega | exact id | exact vcNot | exact vcG | exact vcH | (intro _; omega) | exact (fun _ h => h) | (intro h; simp at h; omega) | (simp only [List.length_cons, List.length_nil, List.length_append, List.length_map, List.length_set, List.length_replicate]; omega) | (intro h; simp [h]; done) | exact hn | exact True.intro | exact ⟨by unfold maxLen; omega, hx2, by unfold Fit; omega, hf⟩ | exact ⟨by unfold maxLen; omega, hx3, by unfold Fit; omega, hf⟩ | (constructor <;> omega) | exact ⟨by show (1 : Nat) ≤ 1000000000; decide, fun x hx => by rw [List.mem_singleton.1 hx, List.length_drop, List.length_take]; omega, hg1, hg2⟩ | (rw [Cn.grd_len]; simp only [List.length_cons, List.length_nil]; omega) | done
 ·
  cases hσ
def cx_eCount : Cx := ⟨tyEnc, [(40, (coeF [.agg [.ld (.ints []), .ld (.ints []), .id, .id]] eEven_σ)), (15, (coeF [.ld (.intss []), .id] eGrd_σ)), (49, (coeF [.ld (.ints []), .id, .id] kLeast_σ))], true⟩
theorem cx_eCount_ok : CxOk Tryd.prog cx_eCount := cx_ok tyEnc_ok ⟨(eEven_sound.coe [.agg [.ld (.ints []), .ld (.ints []), .id, .id]] rfl), (eGrd_sound.coe [.ld (.intss []), .id] rfl), (kLeast_sound.coe [.ld (.ints []), .id, .id] rfl), trivial⟩
def eCount_σ : CtF
  | [.agg [.im (.ls (.ints C)), .im (.ls (.ints L)), .im (.val (.int .i64 B)), .clo 15 [.pto [.val (.int .i64 g)]]], .im (.val (.int .i64 next))], [] => some (Cn.NormC C B ∧ Cn.evB C = true ∧ L.length = C.length ∧ (∀ x ∈ L, x ≠ 0 ∧ -65536 ≤ x ∧ x ≤ 65536) ∧ Fit next ∧ -65537 ≤ g ∧ g ≤ 65537, .tup [.intss ((Cn.encN C L B g next).1), .int ((Cn.encN C L B g next).2.1), .int ((Cn.encN C L B g next).2.2)], [])
  | _, _ => none
theorem eCount_sound : Sound Tryd.prog 36 eCount_σ := by
 refine Sw (cx := cx_eCount) Tryd.f36 Tryd.func36 ?_
 intro wW wO wβ G0 args os p r outs hσ hp
 have hcx := cx_eCount_ok
 unfold eCount_σ at hσ
 split at hσ
 ·
  rename_i C L B g next
  cases hσ
  refine ⟨by kernel_rfl, ?_⟩
  obtain ⟨hn, he, hLC, hx1, hf, hg1, hg2⟩ := hp
  have hl := hn.1
  have hx3 : ∀ x ∈ L, -70000 ≤ x ∧ x ≤ 70000 := fun x hx => by have := hx1 x hx; omega
  obtain ⟨f1, f2, f3, f4, f5, f6, f7⟩ := Cn.ev_fact hn he
  have hlr := Cn.lr_len (L := L) (next := next) (k := Cn.evK C B)
  refine Sz hcx [(1000, .to 602)] [2] [0] [] (Sq hcx [] [7] [] [] [(Cn.NormC C B)] ?_ (Sq hcx [] [9, 10, 11] [7, 1] [] [(L.length ≤ maxLen ∧ (∀ x ∈ L, -70000 ≤ x ∧ x ≤ 70000) ∧ Fit (Cn.evK C B) ∧ Fit next)] ?_ (Zs (Sz hcx [] [28] [] [] (Zx (a := ((Cn.leastR L (Cn.evK C B) next).2.2)) (b := 0) (fun h0 => ?_) fun h0 => ?_)))))
  ·
   refine ap ?_ az
   first | omega | exact id | exact vcNot | exact vcG | exact vcH | (intro _; omega) | exact (fun _ h => h) | (intro h; simp at h; omega) | (simp only [List.length_cons, List.length_nil, List.length_append, List.length_map, List.length_set, List.length_replicate]; omega) | (intro h; simp [h]; done) | exact hn | exact True.intro | exact ⟨by unfold maxLen; omega, hx2, by unfold Fit; omega, hf⟩ | exact ⟨by unfold maxLen; omega, hx3, by unfold Fit; omega, hf⟩ | (constructor <;> omega) | exact ⟨by omega, fun x hx => by have := hlr.2 x hx; omega, hg1, hg2⟩ | done
  ·
   refine ap ?_ az
   first | omega | exact id | exact vcNot | exact vcG | exact vcH | (intro _; omega) | exact (fun _ h => h) | (intro h; simp at h; omega) | (simp only [List.length_cons, List.length_nil, List.length_append, List.length_map, List.length_set, List.length_replicate]; omega) | (intro h; simp [h]; done) | exact hn | exact True.intro | exact ⟨by unfold maxLen; omega, hx2, by unfold Fit; omega, hf⟩ | exact ⟨by unfold maxLen; omega, hx3, by unfold Fit; omega, hf⟩ | (constructor <;> omega) | exact ⟨by omega, fun x hx => by have := hlr.2 x hx; omega, hg1, hg2⟩ | done
  ·
   have hr := Cn.en_err (g := g) h0
   exact Sz hcx [] [4, 5, 6] [28, 9, 10, 11, 2] [602] (Zr (Fr (Fp 4 (.intss []) (Rv hcx (congrArg AV.tup (consE (congrArg AV.intss (show [] = (Cn.encN C L B g next).1 from (by first | (rw [hr]; done) | (rw [hr]; exact h0)))) (consE (congrArg AV.int (show 0 = (Cn.encN C L B g next).2.1 from (by first | (rw [hr]; done) | (rw [hr]; exact h0)))) (consE (congrArg AV.int (show (Cn.leastR L (Cn.evK C B) next).2.2 = (Cn.encN C L B g next).2.2 from (by first | (rw [hr]; done) | (rw [hr]; exact h0)))) rfl)))) [] rfl))))
  ·
   have h0 : (Cn.leastR L (Cn.evK C B) next).2.2 = 0 := by have := h0; omega
   have hr := Cn.en_ok (g := g) h0
   refine Zk (Ft (Sq hcx [(1003, .to 233)] [4, 5, 6] [28, 9, 10, 11, 2] [602] [(((Cn.leastR L (Cn.evK C B) next).1).length ≤ 1000000000 ∧ (∀ l ∈ ((Cn.leastR L (Cn.evK C B) next).1), l.length ≤ 1000000000) ∧ -65537 ≤ g ∧ g ≤ 65537)] ?_ (Zr (Fn [(233, .frz)] [4, 5, 6] (Rv hcx (congrArg AV.tup (consE (congrArg AV.intss (show (Cn.grd g ((Cn.leastR L (Cn.evK C B) next).1)) = (Cn.encN C L B g next).1 from (by first | (rw [hr]; done) | (rw [hr]; exact h0)))) (consE (congrArg AV.int (show (Cn.leastR L (Cn.evK C B) next).2.1 = (Cn.encN C L B g next).2.1 from (by first | (rw [hr]; done) | (rw [hr]; exact h0)))) (consE (congrArg AV.int (show (Cn.leastR L (Cn.evK C B) next).2.2 = (Cn.encN C L B g next).2.2 from (by first | (rw [hr]; done) | (rw [hr]; exact h0)))) rfl)))) [] rfl)))))
   ·
    refine ap ?_ az
    first | omega | exact id | exact vcNot | exact vcG | exact vcH | (intro _; omega) | exact (fun _ h => h) | (intro h; simp at h; omega) | (simp only [List.length_cons, List.length_nil, List.length_append, List.length_map, List.length_set, List.length_replicate]; omega) | (intro h; simp [h]; done) | exact hn | exact True.intro | exact ⟨by unfold maxLen; omega, hx2, by unfold Fit; omega, hf⟩ | exact ⟨by unfold maxLen; omega, hx3, by unfold Fit; omega, hf⟩ | (constructor <;> omega) | exact ⟨by omega, fun x hx => by have := hlr.2 x hx; omega, hg1, hg2⟩ | done
 ·
  cases hσ
def cx_eAdd : Cx := ⟨tyEnc, [(15, (coeF [.ld (.intss []), .id] eGrd_σ)), (50, (coeF [.ld (.ints []), .ld (.ints []), .id] aSum_σ)), (51, (coeF [.ld (.ints []), .id] aLeast_σ.up))], true⟩
theorem cx_eAdd_ok : CxOk Tryd.prog cx_eAdd := cx_ok tyEnc_ok ⟨(eGrd_sound.coe [.ld (.intss []), .id] rfl), (aSum_sound.coe [.ld (.ints []), .ld (.ints []), .id] rfl), (aLeast_sound.up.coe [.ld (.ints []), .id] rfl), trivial⟩
def eAdd_σ : CtF
  | [.agg [.im (.ls (.ints C)), .im (.ls (.ints L)), .im (.val (.int .i64 B)), .clo 15 [.pto [.val (.int .i64 g)]]], .im (.val (.int .i64 next))], [] => some (C.length ≤ 4096 ∧ L.length = C.length ∧ -65537 ≤ g ∧ g ≤ 65537, .tup [.intss ((Cn.encA C L B g next).1), .int ((Cn.encA C L B g next).2.1), .int ((Cn.encA C L B g next).2.2)], [])
  | _, _ => none
theorem eAdd_sound : Sound Tryd.prog 37 eAdd_σ := by
 refine Sw (cx := cx_eAdd) Tryd.f37 Tryd.func37 ?_
 intro wW wO wβ G0 args os p r outs hσ hp
 have hcx := cx_eAdd_ok
 unfold eAdd_σ at hσ
 split at hσ
 ·
  rename_i C L B g next
  cases hσ
  refine ⟨by kernel_rfl, ?_⟩
  obtain ⟨hl, hLC, hg1, hg2⟩ := hp
  have hsl := Cn.sumQ_len C L next
  have hll := Cn.leastQ_len (Cn.sumQ C L next).1 B
  refine Sz hcx [(1000, .to 602)] [2] [0] [] (Sq hcx [(1007, .to 220)] [7, 8, 9, 10] [1] [] [(C.length ≤ 1000000000 ∧ L.length ≤ 1000000000)] ?_ (Zs (Sz hcx [] [26] [] [] (Zx (a := ((Cn.sumQ C L next).2.2.2)) (b := 0) (fun h0 => ?_) fun h0 => ?_))))
  ·
   refine ap ?_ az
   first | omega | exact id | exact vcNot | exact vcG | exact vcH | (intro _; omega) | exact (fun _ h => h) | (intro h; simp at h; omega) | (simp only [List.length_cons, List.length_nil, List.length_append, List.length_map, List.length_set, List.length_replicate]; omega) | (intro h; simp [h]; done) | (constructor <;> omega) | exact ⟨by omega, fun x hx => by have := hll.2 x hx; omega, hg1, hg2⟩ | (rw [Cn.grd_len]; omega) | done
  ·
   have hr := Cn.ea_err (B := B) (g := g) h0
   exact Sz hcx [] [4, 5, 6] [26, 7, 8, 9, 10, 2] [220, 602] (Zr (Fr (Fp 4 (.intss []) (Rv hcx (congrArg AV.tup (consE (congrArg AV.intss (show [] = (Cn.encA C L B g next).1 from (by first | (rw [hr]; done) | (rw [hr]; exact h1_)))) (consE (congrArg AV.int (show 0 = (Cn.encA C L B g next).2.1 from (by first | (rw [hr]; done) | (rw [hr]; exact h1_)))) (consE (congrArg AV.int (show (Cn.sumQ C L next).2.2.2 = (Cn.encA C L B g next).2.2 from (by first | (rw [hr]; done) | (rw [hr]; exact h1_)))) rfl)))) [] rfl))))
  ·
   have h0 : (Cn.sumQ C L next).2.2.2 = 0 := by have := h0; omega
   refine Zk (Ft (Sq hcx [] [10, 11] [26, 7] [] [(((Cn.sumQ C L next).1).length ≤ 1000000000)] ?_ (Zs (Sz hcx [] [37] [] [] (Zx (a := ((Cn.leastQ ((Cn.sumQ C L next).1) B).2)) (b := 0) (fun h1 => ?_) fun h1 => ?_)))))
   ·
    refine ap ?_ az
    first | omega | exact id | exact vcNot | exact vcG | exact vcH | (intro _; omega) | exact (fun _ h => h) | (intro h; simp at h; omega) | (simp only [List.length_cons, List.length_nil, List.length_append, List.length_map, List.length_set, List.length_replicate]; omega) | (intro h; simp [h]; done) | (constructor <;> omega) | exact ⟨by omega, fun x hx => by have := hll.2 x hx; omega, hg1, hg2⟩ | (rw [Cn.grd_len]; omega) | done
   ·
    have hr := Cn.ea_err2 (g := g) h0 h1
    exact Sz hcx [] [4, 5, 6] [37, 10, 11, 8, 9, 2] [220, 602] (Zr (Fr (Fp 4 (.intss []) (Rv hcx (congrArg AV.tup (consE (congrArg AV.intss (show [] = (Cn.encA C L B g next).1 from (by first | (rw [hr]; done) | (rw [hr]; exact h1_)))) (consE (congrArg AV.int (show 0 = (Cn.encA C L B g next).2.1 from (by first | (rw [hr]; done) | (rw [hr]; exact h1_)))) (consE (congrArg AV.int (show (Cn.leastQ ((Cn.sumQ C L next).1) B).2 = (Cn.encA C L B g next).2.2 from (by first | (rw [hr]; done) | (rw [hr]; exact h1_)))) rfl)))) [] rfl))))
   ·
    have h1_ : (Cn.leastQ (Cn.sumQ C L next).1 B).2 = 0 := by have := h1; omega
    have hr := Cn.ea_ok (g := g) h0 h1_
    refine Zk (Ft (Sq hcx [(1005, .to 220)] [4, 5, 6] [37, 10, 11, 8, 9, 2] [220, 602] [(((Cn.leastQ ((Cn.sumQ C L next).1) B).1).length ≤ 1000000000 ∧ (∀ l ∈ ((Cn.leastQ ((Cn.sumQ C L next).1) B).1), l.length ≤ 1000000000) ∧ -65537 ≤ g ∧ g ≤ 65537), ((((Cn.sumQ C L next).2.1).length + (Cn.grd g ((Cn.leastQ ((Cn.sumQ C L next).1) B).1)).length) * 24 ≤ 140737488355328)] ?_ (Zr (Fn [(220, .frz)] [4, 5, 6] (Rv hcx (congrArg AV.tup (consE (congrArg AV.intss (show (((Cn.sumQ C L next).2.1) ++ (Cn.grd g ((Cn.leastQ ((Cn.sumQ C L next).1) B).1))) = (Cn.encA C L B g next).1 from (by first | (rw [hr]; done) | (rw [hr]; exact h1_)))) (consE (congrArg AV.int (show (Cn.sumQ C L next).2.2.1 = (Cn.encA C L B g next).2.1 from (by first | (rw [hr]; done) | (rw [hr]; exact h1_)))) (consE (congrArg AV.int (show (Cn.leastQ ((Cn.sumQ C L next).1) B).2 = (Cn.encA C L B g next).2.2 from (by first | (rw [hr]; done) | (rw [hr]; exact h1_)))) rfl)))) [] rfl)))))
    ·
     refine ap ?_ (ap ?_ az) <;>
      first | omega | exact id | exact vcNot | exact vcG | exact vcH | (intro _; omega) | exact (fun _ h => h) | (intro h; simp at h; omega) | (simp only [List.length_cons, List.length_nil, List.length_append, List.length_map, List.length_set, List.length_replicate]; omega) | (intro h; simp [h]; done) | (constructor <;> omega) | exact ⟨by omega, fun x hx => by have := hll.2 x hx; omega, hg1, hg2⟩ | (rw [Cn.grd_len]; omega) | done
 ·
  cases hσ
def cx_eWays : Cx := ⟨tyEnc, [], true⟩
theorem cx_eWays_ok : CxOk Tryd.prog cx_eWays := cx_ok tyEnc_ok trivial
def eWays_σ : CtF
  | [], [] => some (True, .row 0, [some (.mfun [1, 2, 3, 4, 5, 6] [.clo 34 [], .clo 35 [], .clo 36 [], .clo 37 [], .clo 38 [], .clo 39 []])])
  | _, _ => none
theorem eWays_sound : Sound Tryd.prog 16 eWays_σ := by
 refine Sw (cx := cx_eWays) Tryd.f16 Tryd.func16 ?_
 intro wW wO wβ G0 args os p r outs hσ hp
 have hcx := cx_eWays_ok
 unfold eWays_σ at hσ
 split at hσ
 ·
  cases hσ
  refine ⟨by kernel_rfl, ?_⟩
  exact Sz hcx [] [] [] [] (Sz hcx [(1000, .to 201)] [0] [] [] (Zr (Fn [(201, .to 0)] [0] (Ru hcx [true]))))
 ·
  cases hσ
def cx_eEvenZ : Cx := ⟨tyEnc, [], true⟩
theorem cx_eEvenZ_ok : CxOk Tryd.prog cx_eEvenZ := cx_ok tyEnc_ok trivial
def eEvenZ_σ : CtF
  | [.agg [.im (.ls (.ints C)), .im (.ls (.ints L)), .im (.val (.int .i64 B)), .im (.val .nilFunc)]], [] => some (Cn.NormC C B, .tup [.int (Cn.evK C B), .bool (Cn.evB C)], [])
  | _, _ => none
theorem eEvenZ_sound : Sound Tryd.prog 40 eEvenZ_σ := by
 refine Sw (cx := cx_eEvenZ) Tryd.f40 Tryd.func40 ?_
 intro wW wO wβ G0 args os p r outs hσ hp
 have hcx := cx_eEvenZ_ok
 have hmx : Tryd.prog.follows .mixedOrders = true := by kernel_rfl
 unfold eEvenZ_σ at hσ
 split at hσ
 ·
  rename_i C L B
  cases hσ
  refine ⟨by kernel_rfl, ?_⟩
  have hn := hp
  have hl := hp.1
  have hb := Cn.nc_bd hp
  refine Sz hcx [(1000, .frz)] [1] [0] [] (Zs (Sz hcx [] [8, 9, 10] [] [] (Zb (Lp (X := Nat) (fun x0 => x0 ≤ C.length ∧ ∀ j, j < x0 → C.getD j 0 = C.getD 0 0) (fun x0 => ([(1, .pto [.ls (.ints C), .ls (.ints L), .int B, .val .nilFunc]), (8, .ints C), (9, .int (C.length : Int)), (10, .int (x0 : Int))], [])) (fun x0 => C.length - x0) (0) ?_ (Ex 10 (congrArg AV.int (show 0 = (0 : Int) from (by first | rfl | omega | (simp; done)))) Eb) Hb fun i hI => ?_))))
  ·
   exact ⟨Nat.zero_le _, fun j hj => by omega⟩
  ·
   try dsimp only at hI
   obtain ⟨hk, hok⟩ := hI
   refine Sz hcx [] [11] [] [] (Zs (Zj (p := ((i : Int) < (C.length : Int))) (fun h0 => ?_) fun h0 => ?_))
   ·
    refine Zk (Ft (Zs (Zb (Sq hcx [] [5] [11] [] [((0 : Int) ≤ (i : Int) ∧ (i : Int) < (C.length : Int))] ?_ (Sq hcx [] [20] [5] [] [((0 : Int) ≤ 0 ∧ 0 < (C.length : Int))] ?_ (Zi (b := (C.getD i 0) != (C.getD 0 0)) (fun h1 => ?_) fun h1 => ?_))))))
    ·
     refine ap ?_ az
     first | omega | exact id | exact vcNot | exact vcG | exact vcH | (intro _; omega) | exact (fun _ h => h) | (intro h; simp at h; omega) | (simp only [List.length_cons, List.length_nil, List.length_append, List.length_map, List.length_set, List.length_replicate]; omega) | (intro h; simp [h]; done) | (constructor <;> omega) | done
    ·
     refine ap ?_ az
     first | omega | exact id | exact vcNot | exact vcG | exact vcH | (intro _; omega) | exact (fun _ h => h) | (intro h; simp at h; omega) | (simp only [List.length_cons, List.length_nil, List.length_append, List.length_map, List.length_set, List.length_replicate]; omega) | (intro h; simp [h]; done) | (constructor <;> omega) | done
    ·
     replace h1 := bne_iff_ne.1 h1
     obtain ⟨e1, e2⟩ := Cn.ev_no (B := B) (by omega) h1
     exact Sz hcx [] [2, 3] [20, 1, 8, 9, 10] [] (Zr (Fk (Fr (Fr (Fk (Fr (Rv hcx (congrArg AV.tup (consE (congrArg AV.int (show 0 = (Cn.evK C B) from (by first | exact e1.symm | exact e2.symm | (rw [e1, e2]; done)))) (consE (congrArg AV.bool (show false = (Cn.evB C) from (by first | exact e1.symm | exact e2.symm | (rw [e1, e2]; done)))) rfl))) [] rfl)))))))
    ·
     replace h1 := bneF h1
     have hq := h1
     refine Zk (Fb (Ft (Tq hcx [] [10] [20] [] [Fit ((i : Int) + 1)] ?_ (Lr (i + 1) ?_ ?_ (Ex 10 (congrArg AV.int (show ((i : Int) + 1) = ((i + 1) : Int) from (by first | rfl | omega | (simp; done)))) Eb) Hb))))
     ·
      refine ap ?_ az
      first | omega | exact id | exact vcNot | exact vcG | exact vcH | (intro _; omega) | exact (fun _ h => h) | (intro h; simp at h; omega) | (simp only [List.length_cons, List.length_nil, List.length_append, List.length_map, List.length_set, List.length_replicate]; omega) | (intro h; simp [h]; done) | (constructor <;> omega) | done
     ·
      exact ⟨by omega, fun j hj => by rcases (by omega : j < i ∨ j = i) with h | rfl; exact hok j h; exact hq⟩
     ·
      show C.length - (i + 1) < C.length - i
      omega
   ·
    refine Ze (Fe (Fe (Fs (Ft (Zs (Sz hcx [] [26] [11, 8, 9, 10] [] (Zu (a := (C.length : Int)) (b := 0) (fun h2 => ?_) fun h2 => ?_)))))))
    ·
     obtain ⟨e1, e2⟩ := Cn.ev_nil (B := B) h2
     exact Sz hcx [] [2, 3] [26, 1] [] (Zr (Fr (Rv hcx (congrArg AV.tup (consE (congrArg AV.int (show 0 = (Cn.evK C B) from (by first | exact e1.symm | exact e2.symm | (rw [e1, e2]; done)))) (consE (congrArg AV.bool (show false = (Cn.evB C) from (by first | exact e1.symm | exact e2.symm | (rw [e1, e2]; done)))) rfl))) [] rfl)))
    ·
     have h26 := h2
     obtain ⟨e1, e2⟩ := Cn.ev_yes (B := B) (by omega) hok h26
     obtain ⟨c1, c2, c3, c4⟩ := Cn.nc_0 hn h26
     refine Zk (Ft (Sd hcx hmx [0, 1, 3, 7, 0, 16, 48, 112, 240, 511, 1023, 2047, 4095] [] [2, 3] [26, 1] [] [Fit (B - 1), ((0 : Int) ≤ 0 ∧ 0 < (C.length : Int)), (((C.getD 0 0) : Int) ≠ 0 ∧ Fit ((B - 1).tdiv (C.getD 0 0))), Fit (((B - 1).tdiv (C.getD 0 0)) + 1)] ?_ (Zr (Rv hcx (congrArg AV.tup (consE (congrArg AV.int (show (((B - 1).tdiv (C.getD 0 0)) + 1) = (Cn.evK C B) from (by first | exact e1.symm | exact e2.symm | (rw [e1, e2]; done)))) (consE (congrArg AV.bool (show true = (Cn.evB C) from (by first | exact e1.symm | exact e2.symm | (rw [e1, e2]; done)))) rfl))) [] rfl))))
     ·
      refine ap ?_ (ap ?_ (ap ?_ (ap ?_ az))) <;>
       first | omega | exact id | exact vcNot | exact vcG | exact vcH | (intro _; omega) | exact (fun _ h => h) | (intro h; simp at h; omega) | (simp only [List.length_cons, List.length_nil, List.length_append, List.length_map, List.length_set, List.length_replicate]; omega) | (intro h; simp [h]; done) | (constructor <;> omega) | done
 ·
  cases hσ
def cx_eWayZ : Cx := ⟨tyEnc, [(40, (orF (coeF [.agg [.ld (.ints []), .ld (.ints []), .id, .id]] eEven_σ) (coeF [.agg [.ld (.ints []), .ld (.ints []), .id, .id]] eEvenZ_σ)))], true⟩
theorem cx_eWayZ_ok : CxOk Tryd.prog cx_eWayZ := cx_ok tyEnc_ok ⟨((eEven_sound.coe [.agg [.ld (.ints []), .ld (.ints []), .id, .id]] rfl).or (eEvenZ_sound.coe [.agg [.ld (.ints []), .ld (.ints []), .id, .id]] rfl)), trivial⟩
def eWayZ_σ : CtF
  | [.agg [.im (.ls (.ints C)), .im (.ls (.ints L)), .im (.val (.int .i64 B)), .im (.val .nilFunc)]], [] => some (Cn.NormC C B, .int (Cn.wayP C B), [])
  | _, _ => none
theorem eWayZ_sound : Sound Tryd.prog 17 eWayZ_σ := by
 refine Sw (cx := cx_eWayZ) Tryd.f17 Tryd.func17 ?_
 intro wW wO wβ G0 args os p r outs hσ hp
 have hcx := cx_eWayZ_ok
 have hmx : Tryd.prog.follows .mixedOrders = true := by kernel_rfl
 unfold eWayZ_σ at hσ
 split at hσ
 ·
  rename_i C L B
  cases hσ
  refine ⟨by kernel_rfl, ?_⟩
  have hn := hp
  have hl := hp.1
  have hb := Cn.nc_bd hp
  have hnk := fun h => Cn.nk_bd hn h
  have hfe := fun h => (Cn.ev_fact hn h).1
  refine Sz hcx [(1000, .frz)] [1] [0] [] (Sq hcx [] [3, 4] [] [] [(Cn.NormC C B)] ?_ (Zs (Sz hcx [] [5] [] [] (Zb (Sq hcx [] [15] [] [] [(((C.length : Int) == 0) = true → (((C.length : Int) == 0) = true)), (((C.length : Int) == 0) = true → (((C.length : Int) == 0) = true)), (((C.length : Int) == 0) = true → (((C.length : Int) == 0) = true)), (((C.length : Int) == 0) = true → ((C.length : Int) == 0) = true)] ?_ (Zi (b := ((C.length : Int) == 0) && (B == 0)) (fun h0 => ?_) fun h0 => ?_))))))
  ·
   refine ap ?_ az
   first | omega | exact id | exact vcNot | exact vcG | exact vcH | (intro _; omega) | exact (fun _ h => h) | (intro h; simp at h; omega) | (simp only [List.length_cons, List.length_nil, List.length_append, List.length_map, List.length_set, List.length_replicate]; omega) | (intro h; simp [h]; done) | exact hp | (intro h8; have h9 := hfe h8; constructor <;> omega) | (intro h8; have h9 := hnk h8; constructor <;> omega) | done
  ·
   refine ap ?_ (ap ?_ (ap ?_ (ap (by exact id) az))) <;>
    first | omega | exact id | exact vcNot | exact vcG | exact vcH | (intro _; omega) | exact (fun _ h => h) | (intro h; simp at h; omega) | (simp only [List.length_cons, List.length_nil, List.length_append, List.length_map, List.length_set, List.length_replicate]; omega) | (intro h; simp [h]; done) | exact hp | (intro h8; have h9 := hfe h8; constructor <;> omega) | (intro h8; have h9 := hnk h8; constructor <;> omega) | done
  ·
   have hr := Cn.wy_5 h0
   exact Sz hcx [] [2] [15, 5, 3, 4, 1] [] (Zr (Fk (Fr (Rv hcx (congrArg AV.int (show 5 = (Cn.wayP C B) from (by exact hr.symm))) [] rfl))))
  ·
   have h5_ := h0
   refine Sz hcx [] [24] [15] [] (Zu (a := (C.length : Int)) (b := 0) (fun h1 => ?_) fun h1 => ?_)
   ·
    have hr := Cn.wy_6 h5_ h1
    exact Sz hcx [] [2] [24, 5, 3, 4, 1] [] (Zr (Fk (Fr (Rv hcx (congrArg AV.int (show 6 = (Cn.wayP C B) from (by exact hr.symm))) [] rfl))))
   ·
    have h6_ := h1
    refine Sd hcx hmx [0, 1, 3, 7, 15, 31, 63, 3, 131, 387, 1023, 2047, 4095] [] [27] [24, 1] [] [((Cn.evB C) = true → ((Cn.evB C) = true)), ((Cn.evB C) = true → ((Cn.evB C) = true)), ((Cn.evB C) = true → ((Cn.evB C) = true)), ((Cn.evB C) = true → ((0 : Int) ≤ 0 ∧ 0 < (C.length : Int))), ((Cn.evB C) = true → ((Cn.evB C) = true)), ((Cn.evB C) = true → ((Cn.evB C) = true)), ((Cn.evB C) = true → ((Cn.evB C) = true)), ((Cn.evB C) = true → ((Cn.evB C) = true)), ((Cn.evB C) = true → ((Cn.evB C) = true)), ((Cn.evB C) = true → (Cn.evB C) = true)] ?_ (Zi (b := (Cn.evB C) && ((C.getD 0 0) == B)) (fun h2 => ?_) fun h2 => ?_)
    ·
     refine ap ?_ (ap ?_ (ap ?_ (ap ?_ (ap ?_ (ap ?_ (ap ?_ (ap ?_ (ap ?_ (ap (by exact id) az))))))))) <;>
      first | omega | exact id | exact vcNot | exact vcG | exact vcH | (intro _; omega) | exact (fun _ h => h) | (intro h; simp at h; omega) | (simp only [List.length_cons, List.length_nil, List.length_append, List.length_map, List.length_set, List.length_replicate]; omega) | (intro h; simp [h]; done) | exact hp | (intro h8; have h9 := hfe h8; constructor <;> omega) | (intro h8; have h9 := hnk h8; constructor <;> omega) | done
    ·
     have hr := Cn.wy_1 h6_ h2
     exact Sz hcx [] [2] [27, 5, 3, 4] [] (Zr (Fk (Fr (Rv hcx (congrArg AV.int (show 1 = (Cn.wayP C B) from (by exact hr.symm))) [] rfl))))
    ·
     have h1_ := h2
     refine Sq hcx [] [40] [27] [] [((Cn.evB C) = true → ((Cn.evB C) = true)), ((Cn.evB C) = true → (Cn.evB C) = true)] ?_ (Zi (b := (Cn.evB C) && (decide ((C.length : Int) ≤ 10))) (fun h3 => ?_) fun h3 => ?_)
     ·
      refine ap ?_ (ap (by exact id) az)
      first | omega | exact id | exact vcNot | exact vcG | exact vcH | (intro _; omega) | exact (fun _ h => h) | (intro h; simp at h; omega) | (simp only [List.length_cons, List.length_nil, List.length_append, List.length_map, List.length_set, List.length_replicate]; omega) | (intro h; simp [h]; done) | exact hp | (intro h8; have h9 := hfe h8; constructor <;> omega) | (intro h8; have h9 := hnk h8; constructor <;> omega) | done
     ·
      have hr := Cn.wy_2 h6_ h1_ h3
      exact Sz hcx [] [2] [40, 5, 3, 4] [] (Zr (Fk (Fr (Rv hcx (congrArg AV.int (show 2 = (Cn.wayP C B) from (by exact hr.symm))) [] rfl))))
     ·
      have h2_ := h3
      refine Sq hcx [] [46] [40, 5, 3, 4] [] [((Cn.evB C) = true → ((Cn.evB C) = true)), ((Cn.evB C) = true → ((Cn.evB C) = true)), ((Cn.evB C) = true → Fit ((C.length : Int) * (Cn.evK C B))), ((Cn.evB C) = true → ((Cn.evB C) = true)), ((Cn.evB C) = true → (Cn.evB C) = true)] ?_ (Zi (b := (Cn.evB C) && (decide (((C.length : Int) * (Cn.evK C B)) ≤ 400))) (fun h4 => ?_) fun h4 => ?_)
      ·
       refine ap ?_ (ap ?_ (ap ?_ (ap ?_ (ap (by exact id) az)))) <;>
        first | omega | exact id | exact vcNot | exact vcG | exact vcH | (intro _; omega) | exact (fun _ h => h) | (intro h; simp at h; omega) | (simp only [List.length_cons, List.length_nil, List.length_append, List.length_map, List.length_set, List.length_replicate]; omega) | (intro h; simp [h]; done) | exact hp | (intro h8; have h9 := hfe h8; constructor <;> omega) | (intro h8; have h9 := hnk h8; constructor <;> omega) | done
      ·
       have hr := Cn.wy_3 h6_ h1_ h2_ h4
       exact Sz hcx [] [2] [46] [] (Zr (Fk (Fr (Rv hcx (congrArg AV.int (show 3 = (Cn.wayP C B) from (by exact hr.symm))) [] rfl))))
      ·
       have hr := Cn.wy_4 h6_ h1_ h2_ h4
       exact Zk (Fb (Ft (Sz hcx [] [2] [46] [] (Zr (Rv hcx (congrArg AV.int (show 4 = (Cn.wayP C B) from (by exact hr.symm))) [] rfl)))))
 ·
  cases hσ
def cx_eHow : Cx := ⟨tyEnc, [(17, (orF (coeF [.agg [.ld (.ints []), .ld (.ints []), .id, .id]] eWay_σ) (coeF [.agg [.ld (.ints []), .ld (.ints []), .id, .id]] eWayZ_σ))), (14, (coeF [.agg [.ld (.ints []), .ld (.ints []), .id], .id] lcheck_σ.up)), (10, (coeF [.agg [.ld (.ints []), .ld (.ints []), .id]] lnorm_σ.up))], true⟩
theorem cx_eHow_ok : CxOk Tryd.prog cx_eHow := cx_ok tyEnc_ok ⟨((eWay_sound.coe [.agg [.ld (.ints []), .ld (.ints []), .id, .id]] rfl).or (eWayZ_sound.coe [.agg [.ld (.ints []), .ld (.ints []), .id, .id]] rfl)), (lcheck_sound.up.coe [.agg [.ld (.ints []), .ld (.ints []), .id], .id] rfl), (lnorm_sound.up.coe [.agg [.ld (.ints []), .ld (.ints []), .id]] rfl), trivial⟩
def eHow_σ : CtF
  | [.agg [.im (.ls (.ints C)), .im (.ls (.ints L)), .im (.val (.int .i64 B))]], [] => some (True, .tup [.int ((Cn.howR C L B).1), .int ((Cn.howR C L B).2)], [])
  | _, _ => none
theorem eHow_sound : Sound Tryd.prog 11 eHow_σ := by
 refine Sw (cx := cx_eHow) Tryd.f11 Tryd.func11 ?_
 intro wW wO wβ G0 args os p r outs hσ hp
 have hcx := cx_eHow_ok
 unfold eHow_σ at hσ
 split at hσ
 ·
  rename_i C L B
  cases hσ
  refine ⟨by kernel_rfl, ?_⟩
  refine Sz hcx [(1000, .frz)] [1] [0] [] (Zs (Sq hcx [] [4] [] [] [(True)] ?_ (Sz hcx [] [8] [] [] (Zx (a := (lcheck ⟨C, L, B⟩ (65536 : Int))) (b := 0) (fun h0 => ?_) fun h0 => ?_))))
  ·
   refine ap ?_ az
   first | omega | exact id | exact vcNot | exact vcG | exact vcH | (intro _; omega) | exact (fun _ h => h) | (intro h; simp at h; omega) | (simp only [List.length_cons, List.length_nil, List.length_append, List.length_map, List.length_set, List.length_replicate]; omega) | (intro h; simp [h]; done) | exact n1 | exact True.intro | done
  ·
   have hr : Cn.howR C L B = (0, lcheck ⟨C, L, B⟩ 65536) := if_pos h0
   exact Sz hcx [] [2, 3] [8, 4, 1] [] (Zr (Fr (Rv hcx (congrArg AV.tup (consE (congrArg AV.int (show 0 = (Cn.howR C L B).1 from (by (rw [hr]; done)))) (consE (congrArg AV.int (show lcheck ⟨C, L, B⟩ (65536 : Int) = (Cn.howR C L B).2 from (by (rw [hr]; done)))) rfl))) [] rfl)))
  ·
   have h0 : lcheck ⟨C, L, B⟩ 65536 = 0 := by have := h0; omega
   have hr : Cn.howR C L B = (Cn.wayP (normP ⟨C, L, B⟩).C (normP ⟨C, L, B⟩).B, 0) := if_neg (fun q => q h0)
   obtain ⟨n1, n2, n3⟩ := Cn.norm_nc h0
   refine Zk (Ft (Sq hcx [] [2, 3] [8, 4, 1] [] [(True), (Cn.NormC ((normP ⟨C, L, B⟩).C) ((normP ⟨C, L, B⟩).B))] ?_ (Zr (Rv hcx (congrArg AV.tup (consE (congrArg AV.int (show (Cn.wayP ((normP ⟨C, L, B⟩).C) ((normP ⟨C, L, B⟩).B)) = (Cn.howR C L B).1 from (by (rw [hr]; done)))) (consE (congrArg AV.int (show 0 = (Cn.howR C L B).2 from (by (rw [hr]; done)))) rfl))) [] rfl))))
   ·
    refine ap ?_ (ap ?_ az) <;>
     first | omega | exact id | exact vcNot | exact vcG | exact vcH | (intro _; omega) | exact (fun _ h => h) | (intro h; simp at h; omega) | (simp only [List.length_cons, List.length_nil, List.length_append, List.length_map, List.length_set, List.length_replicate]; omega) | (intro h; simp [h]; done) | exact n1 | exact True.intro | done
 ·
  cases hσ
def eWayK_σ (k : Int) : CtF
  | [.agg [.im (.ls (.ints C)), .im (.ls (.ints L)), .im (.val (.int .i64 B)), .clo 15 [.pto [.val (.int .i64 g)]]]], [] => some (Cn.NormC C B ∧ Cn.wayP C B = k, .int k, [])
  | _, _ => none
theorem eWayK_sound (k : Int) : Sound Tryd.prog 17 (eWayK_σ k) := eWay_sound.weak fun args os p r outs h => by
  unfold eWayK_σ at h
  split at h
  · simp only [Option.some.injEq, Prod.mk.injEq] at h
    obtain ⟨rfl, rfl, rfl⟩ := h
    exact ⟨_, _, rfl, fun hp => ⟨hp.1, by rw [hp.2]⟩⟩
  · cases h
def cxW1 : Cx := ⟨tyEnc, [(17, (coeF [.agg [.ld (.ints []), .ld (.ints []), .id, .id]] (eWayK_σ 1))), (34, (coeF [.agg [.ld (.ints []), .ld (.ints []), .id, .id], .id] eClause_σ)), (16, eWays_σ)], true⟩
theorem cxW1_ok : CxOk Tryd.prog cxW1 := cx_ok tyEnc_ok ⟨((eWayK_sound 1).coe [.agg [.ld (.ints []), .ld (.ints []), .id, .id]] rfl), (eClause_sound.coe [.agg [.ld (.ints []), .ld (.ints []), .id, .id], .id] rfl), eWays_sound, trivial⟩
def cxW2 : Cx := ⟨tyEnc, [(17, (coeF [.agg [.ld (.ints []), .ld (.ints []), .id, .id]] (eWayK_σ 2))), (35, (coeF [.agg [.ld (.ints []), .ld (.ints []), .id, .id], .id] eTotal_σ)), (16, eWays_σ)], true⟩
theorem cxW2_ok : CxOk Tryd.prog cxW2 := cx_ok tyEnc_ok ⟨((eWayK_sound 2).coe [.agg [.ld (.ints []), .ld (.ints []), .id, .id]] rfl), (eTotal_sound.coe [.agg [.ld (.ints []), .ld (.ints []), .id, .id], .id] rfl), eWays_sound, trivial⟩
def cxW3 : Cx := ⟨tyEnc, [(17, (coeF [.agg [.ld (.ints []), .ld (.ints []), .id, .id]] (eWayK_σ 3))), (36, (coeF [.agg [.ld (.ints []), .ld (.ints []), .id, .id], .id] eCount_σ)), (16, eWays_σ)], true⟩
theorem cxW3_ok : CxOk Tryd.prog cxW3 := cx_ok tyEnc_ok ⟨((eWayK_sound 3).coe [.agg [.ld (.ints []), .ld (.ints []), .id, .id]] rfl), (eCount_sound.coe [.agg [.ld (.ints []), .ld (.ints []), .id, .id], .id] rfl), eWays_sound, trivial⟩
def cxW4 : Cx := ⟨tyEnc, [(17, (coeF [.agg [.ld (.ints []), .ld (.ints []), .id, .id]] (eWayK_σ 4))), (37, (coeF [.agg [.ld (.ints []), .ld (.ints []), .id, .id], .id] eAdd_σ)), (16, eWays_σ)], true⟩
theorem cxW4_ok : CxOk Tryd.prog cxW4 := cx_ok tyEnc_ok ⟨((eWayK_sound 4).coe [.agg [.ld (.ints []), .ld (.ints []), .id, .id]] rfl), (eAdd_sound.coe [.agg [.ld (.ints []), .ld (.ints []), .id, .id], .id] rfl), eWays_sound, trivial⟩
def cxW5 : Cx := ⟨tyEnc, [(17, (coeF [.agg [.ld (.ints []), .ld (.ints []), .id, .id]] (eWayK_σ 5))), (38, (coeF [.agg [.ld (.ints []), .ld (.ints []), .id, .id], .id] eNothing_σ)), (16, eWays_σ)], true⟩
theorem cxW5_ok : CxOk Tryd.prog cxW5 := cx_ok tyEnc_ok ⟨((eWayK_sound 5).coe [.agg [.ld (.ints []), .ld (.ints []), .id, .id]] rfl), (eNothing_sound.coe [.agg [.ld (.ints []), .ld (.ints []), .id, .id], .id] rfl), eWays_sound, trivial⟩
def cxW6 : Cx := ⟨tyEnc, [(17, (coeF [.agg [.ld (.ints []), .ld (.ints []), .id, .id]] (eWayK_σ 6))), (39, (coeF [.agg [.ld (.ints []), .ld (.ints []), .id, .id], .id] eNever_σ)), (16, eWays_σ)], true⟩
theorem cxW6_ok : CxOk Tryd.prog cxW6 := cx_ok tyEnc_ok ⟨((eWayK_sound 6).coe [.agg [.ld (.ints []), .ld (.ints []), .id, .id]] rfl), (eNever_sound.coe [.agg [.ld (.ints []), .ld (.ints []), .id, .id], .id] rfl), eWays_sound, trivial⟩
def cx_eOne : Cx := ⟨tyEnc, [(14, (coeF [.agg [.ld (.ints []), .ld (.ints []), .id], .id] lcheck_σ.up)), (10, (coeF [.agg [.ld (.ints []), .ld (.ints []), .id]] lnorm_σ.up))], true⟩
theorem cx_eOne_ok : CxOk Tryd.prog cx_eOne := cx_ok tyEnc_ok ⟨(lcheck_sound.up.coe [.agg [.ld (.ints []), .ld (.ints []), .id], .id] rfl), (lnorm_sound.up.coe [.agg [.ld (.ints []), .ld (.ints []), .id]] rfl), trivial⟩
def eOne_σ : CtF
  | [.agg [.im (.ls (.ints C)), .im (.ls (.ints L)), .im (.val (.int .i64 B))], .im (.val (.int .i64 g)), .im (.val (.int .i64 next))], [] => some (Fit g ∧ Fit next, .tup [.intss ((Cn.oneR C L B g next).1), .int ((Cn.oneR C L B g next).2.1), .int ((Cn.oneR C L B g next).2.2)], [])
  | _, _ => none
theorem eOne_sound : Sound Tryd.prog 7 eOne_σ := by
 refine Sw (cx := cx_eOne) Tryd.f7 Tryd.func7 ?_
 intro wW wO wβ G0 args os p r outs hσ hp
 have hcx := cx_eOne_ok
 have hmx : Tryd.prog.follows .mixedOrders = true := by kernel_rfl
 unfold eOne_σ at hσ
 split at hσ
 ·
  rename_i C L B g next
  cases hσ
  refine ⟨by kernel_rfl, ?_⟩
  obtain ⟨hf1, hf2⟩ := hp
  refine Sz hcx [(1000, .frz), (1001, .frz)] [3, 4] [0, 1] [] (Zs (Sq hcx [] [15] [] [] [((!(decide (next < 1))) = true → ((!(decide (next < 1))) = true)), ((decide (next < 1)) = false → (!(decide (next < 1))) = true)] ?_ (Zi (b := (decide (next < 1)) || (decide (next > 65537))) (fun h0 => ?_) fun h0 => ?_)))
  ·
   refine ap ?_ (ap (by exact vcNot) az)
   first | omega | exact id | exact vcNot | exact vcG | exact vcH | (intro _; omega) | exact (fun _ h => h) | (intro h; simp at h; omega) | (simp only [List.length_cons, List.length_nil, List.length_append, List.length_map, List.length_set, List.length_replicate]; omega) | (intro h; simp [h]; done) | exact True.intro | exact ⟨n1, hk⟩ | (constructor <;> omega) | exact ⟨n1, Cn.way_ev (.inl hk), n2, n3, hf2, by omega, by omega⟩ | exact ⟨n1, Cn.way_ev (.inr hk), n2, n3, hf2, by omega, by omega⟩ | exact ⟨n1.1, n2, by omega, by omega⟩ | exact ⟨by have := n1.1; omega, by omega, by omega⟩ | done
  ·
   have hr := Cn.on_arg (C := C) (L := L) (B := B) (g := g) (Cn.on_b.1 h0)
   exact Sz hcx [] [6, 7, 8] [15, 3, 4, 2] [] (Zr (Fr (Fp 6 (.intss []) (Rv hcx (congrArg AV.tup (consE (congrArg AV.intss (show [] = (Cn.oneR C L B g next).1 from (by first | (rw [hr]; done) | (rw [hr, Cn.es_1 hk]; done) | (rw [hr, Cn.es_2 hk]; done) | (rw [hr, Cn.es_3 hk]; done) | (rw [hr, Cn.es_4 hk]; done) | (rw [hr, Cn.es_5 hk]; done) | (rw [hr, Cn.es_6 hk]; done)))) (consE (congrArg AV.int (show 0 = (Cn.oneR C L B g next).2.1 from (by first | (rw [hr]; done) | (rw [hr, Cn.es_1 hk]; done) | (rw [hr, Cn.es_2 hk]; done) | (rw [hr, Cn.es_3 hk]; done) | (rw [hr, Cn.es_4 hk]; done) | (rw [hr, Cn.es_5 hk]; done) | (rw [hr, Cn.es_6 hk]; done)))) (consE (congrArg AV.int (show 1 = (Cn.oneR C L B g next).2.2 from (by first | (rw [hr]; done) | (rw [hr, Cn.es_1 hk]; done) | (rw [hr, Cn.es_2 hk]; done) | (rw [hr, Cn.es_3 hk]; done) | (rw [hr, Cn.es_4 hk]; done) | (rw [hr, Cn.es_5 hk]; done) | (rw [hr, Cn.es_6 hk]; done)))) rfl)))) [] rfl))))
  ·
   have h15_ := Cn.on_bF h0
   refine Zk (Ft (Zs (Sq hcx [] [8] [15] [] [Fit (next - 1), (True)] ?_ (Sz hcx [] [21] [] [] (Zx (a := (lcheck ⟨C, L, B⟩ (next - 1))) (b := 0) (fun h1 => ?_) fun h1 => ?_)))))
   ·
    refine ap ?_ (ap ?_ az) <;>
     first | omega | exact id | exact vcNot | exact vcG | exact vcH | (intro _; omega) | exact (fun _ h => h) | (intro h; simp at h; omega) | (simp only [List.length_cons, List.length_nil, List.length_append, List.length_map, List.length_set, List.length_replicate]; omega) | (intro h; simp [h]; done) | exact True.intro | exact ⟨n1, hk⟩ | (constructor <;> omega) | exact ⟨n1, Cn.way_ev (.inl hk), n2, n3, hf2, by omega, by omega⟩ | exact ⟨n1, Cn.way_ev (.inr hk), n2, n3, hf2, by omega, by omega⟩ | exact ⟨n1.1, n2, by omega, by omega⟩ | exact ⟨by have := n1.1; omega, by omega, by omega⟩ | done
   ·
    have hr := Cn.on_chk (g := g) h15_ h1
    exact Sz hcx [] [6, 7, 8] [21, 3, 4, 2] [] (Zr (Fr (Fp 6 (.intss []) (Rv hcx (congrArg AV.tup (consE (congrArg AV.intss (show [] = (Cn.oneR C L B g next).1 from (by first | (rw [hr]; done) | (rw [hr, Cn.es_1 hk]; done) | (rw [hr, Cn.es_2 hk]; done) | (rw [hr, Cn.es_3 hk]; done) | (rw [hr, Cn.es_4 hk]; done) | (rw [hr, Cn.es_5 hk]; done) | (rw [hr, Cn.es_6 hk]; done)))) (consE (congrArg AV.int (show 0 = (Cn.oneR C L B g next).2.1 from (by first | (rw [hr]; done) | (rw [hr, Cn.es_1 hk]; done) | (rw [hr, Cn.es_2 hk]; done) | (rw [hr, Cn.es_3 hk]; done) | (rw [hr, Cn.es_4 hk]; done) | (rw [hr, Cn.es_5 hk]; done) | (rw [hr, Cn.es_6 hk]; done)))) (consE (congrArg AV.int (show lcheck ⟨C, L, B⟩ (next - 1) = (Cn.oneR C L B g next).2.2 from (by first | (rw [hr]; done) | (rw [hr, Cn.es_1 hk]; done) | (rw [hr, Cn.es_2 hk]; done) | (rw [hr, Cn.es_3 hk]; done) | (rw [hr, Cn.es_4 hk]; done) | (rw [hr, Cn.es_5 hk]; done) | (rw [hr, Cn.es_6 hk]; done)))) rfl)))) [] rfl))))
   ·
    have h21_ : lcheck ⟨C, L, B⟩ (next - 1) = 0 := by have := h1; omega
    obtain ⟨n1, n2, n3⟩ := Cn.norm_nc h21_
    refine Zk (Ft (Zs (Sq hcx [] [31] [21, 8] [] [((!(decide (g ≥ next))) = true → ((!(decide (g ≥ next))) = true)), ((!(decide (g ≥ next))) = true → Fit (-next)), ((!(decide (g ≥ next))) = true → ((!(decide (g ≥ next))) = true)), ((!(decide (g ≥ next))) = true → ((!(decide (g ≥ next))) = true)), ((decide (g ≥ next)) = false → (!(decide (g ≥ next))) = true)] ?_ (Zi (b := (decide (g ≥ next)) || (decide (g ≤ (-next)))) (fun h2 => ?_) fun h2 => ?_))))
    ·
     refine ap ?_ (ap ?_ (ap ?_ (ap ?_ (ap (by exact vcNot) az)))) <;>
      first | omega | exact id | exact vcNot | exact vcG | exact vcH | (intro _; omega) | exact (fun _ h => h) | (intro h; simp at h; omega) | (simp only [List.length_cons, List.length_nil, List.length_append, List.length_map, List.length_set, List.length_replicate]; omega) | (intro h; simp [h]; done) | exact True.intro | exact ⟨n1, hk⟩ | (constructor <;> omega) | exact ⟨n1, Cn.way_ev (.inl hk), n2, n3, hf2, by omega, by omega⟩ | exact ⟨n1, Cn.way_ev (.inr hk), n2, n3, hf2, by omega, by omega⟩ | exact ⟨n1.1, n2, by omega, by omega⟩ | exact ⟨by have := n1.1; omega, by omega, by omega⟩ | done
    ·
     have hr := Cn.on_lit h15_ h21_ (Cn.on_l.1 h2)
     exact Sz hcx [] [6, 7, 8] [31, 3, 4, 2] [] (Zr (Fr (Fp 6 (.intss []) (Rv hcx (congrArg AV.tup (consE (congrArg AV.intss (show [] = (Cn.oneR C L B g next).1 from (by first | (rw [hr]; done) | (rw [hr, Cn.es_1 hk]; done) | (rw [hr, Cn.es_2 hk]; done) | (rw [hr, Cn.es_3 hk]; done) | (rw [hr, Cn.es_4 hk]; done) | (rw [hr, Cn.es_5 hk]; done) | (rw [hr, Cn.es_6 hk]; done)))) (consE (congrArg AV.int (show 0 = (Cn.oneR C L B g next).2.1 from (by first | (rw [hr]; done) | (rw [hr, Cn.es_1 hk]; done) | (rw [hr, Cn.es_2 hk]; done) | (rw [hr, Cn.es_3 hk]; done) | (rw [hr, Cn.es_4 hk]; done) | (rw [hr, Cn.es_5 hk]; done) | (rw [hr, Cn.es_6 hk]; done)))) (consE (congrArg AV.int (show 140 = (Cn.oneR C L B g next).2.2 from (by first | (rw [hr]; done) | (rw [hr, Cn.es_1 hk]; done) | (rw [hr, Cn.es_2 hk]; done) | (rw [hr, Cn.es_3 hk]; done) | (rw [hr, Cn.es_4 hk]; done) | (rw [hr, Cn.es_5 hk]; done) | (rw [hr, Cn.es_6 hk]; done)))) rfl)))) [] rfl))))
    ·
     have h31_ := Cn.on_lF h2
     have hr := Cn.on_ok h15_ h21_ h31_
     refine Zk (Ft (Sq hcx [(1004, .to 609)] [9] [31, 3, 4] [] [(True)] ?_ (Zs ?_)))
     ·
      refine ap ?_ az
      first | omega | exact id | exact vcNot | exact vcG | exact vcH | (intro _; omega) | exact (fun _ h => h) | (intro h; simp at h; omega) | (simp only [List.length_cons, List.length_nil, List.length_append, List.length_map, List.length_set, List.length_replicate]; omega) | (intro h; simp [h]; done) | exact True.intro | exact ⟨n1, hk⟩ | (constructor <;> omega) | exact ⟨n1, Cn.way_ev (.inl hk), n2, n3, hf2, by omega, by omega⟩ | exact ⟨n1, Cn.way_ev (.inr hk), n2, n3, hf2, by omega, by omega⟩ | exact ⟨n1.1, n2, by omega, by omega⟩ | exact ⟨by have := n1.1; omega, by omega, by omega⟩ | done
     rcases ((Cn.way_six (normP ⟨C, L, B⟩).C (normP ⟨C, L, B⟩).B) : Cn.wayP (normP ⟨C, L, B⟩).C (normP ⟨C, L, B⟩).B = 1 ∨ Cn.wayP (normP ⟨C, L, B⟩).C (normP ⟨C, L, B⟩).B = 2 ∨ Cn.wayP (normP ⟨C, L, B⟩).C (normP ⟨C, L, B⟩).B = 3 ∨ Cn.wayP (normP ⟨C, L, B⟩).C (normP ⟨C, L, B⟩).B = 4 ∨ Cn.wayP (normP ⟨C, L, B⟩).C (normP ⟨C, L, B⟩).B = 5 ∨ Cn.wayP (normP ⟨C, L, B⟩).C (normP ⟨C, L, B⟩).B = 6) with hk | hk | hk | hk | hk | hk
     ·
      refine Tcd cxW1 cxW1_ok hmx [0, 0, 3, 7, 0, 0, 63, 127, 127, 127, 1023, 2047, 4095] [(1006, .to 242)] [6, 7, 8] [9, 2] [609] [(True), (Cn.NormC ((normP ⟨C, L, B⟩).C) ((normP ⟨C, L, B⟩).B) ∧ Cn.wayP ((normP ⟨C, L, B⟩).C) ((normP ⟨C, L, B⟩).B) = 1), (((normP ⟨C, L, B⟩).L).length ≤ 1000000 ∧ -65537 ≤ g ∧ g ≤ 65537)] ?_ ?_
      ·
       refine ap ?_ (ap ?_ (ap ?_ az)) <;>
        first | omega | exact id | exact vcNot | exact vcG | exact vcH | (intro _; omega) | exact (fun _ h => h) | (intro h; simp at h; omega) | (simp only [List.length_cons, List.length_nil, List.length_append, List.length_map, List.length_set, List.length_replicate]; omega) | (intro h; simp [h]; done) | exact True.intro | exact ⟨n1, hk⟩ | (constructor <;> omega) | exact ⟨n1, Cn.way_ev (.inl hk), n2, n3, hf2, by omega, by omega⟩ | exact ⟨n1, Cn.way_ev (.inr hk), n2, n3, hf2, by omega, by omega⟩ | exact ⟨n1.1, n2, by omega, by omega⟩ | exact ⟨by have := n1.1; omega, by omega, by omega⟩ | done
      exact Ft (Zr (Fn [(242, .frz)] [6, 7, 8] (Rv hcx (congrArg AV.tup (consE (congrArg AV.intss (show (Cn.grd g [((normP ⟨C, L, B⟩).L)]) = (Cn.oneR C L B g next).1 from (by first | (rw [hr]; done) | (rw [hr, Cn.es_1 hk]; done) | (rw [hr, Cn.es_2 hk]; done) | (rw [hr, Cn.es_3 hk]; done) | (rw [hr, Cn.es_4 hk]; done) | (rw [hr, Cn.es_5 hk]; done) | (rw [hr, Cn.es_6 hk]; done)))) (consE (congrArg AV.int (show next = (Cn.oneR C L B g next).2.1 from (by first | (rw [hr]; done) | (rw [hr, Cn.es_1 hk]; done) | (rw [hr, Cn.es_2 hk]; done) | (rw [hr, Cn.es_3 hk]; done) | (rw [hr, Cn.es_4 hk]; done) | (rw [hr, Cn.es_5 hk]; done) | (rw [hr, Cn.es_6 hk]; done)))) (consE (congrArg AV.int (show 0 = (Cn.oneR C L B g next).2.2 from (by first | (rw [hr]; done) | (rw [hr, Cn.es_1 hk]; done) | (rw [hr, Cn.es_2 hk]; done) | (rw [hr, Cn.es_3 hk]; done) | (rw [hr, Cn.es_4 hk]; done) | (rw [hr, Cn.es_5 hk]; done) | (rw [hr, Cn.es_6 hk]; done)))) rfl)))) [] rfl)))
     ·
      refine Tcd cxW2 cxW2_ok hmx [0, 0, 3, 7, 0, 0, 63, 127, 127, 127, 1023, 2047, 4095] [] [6, 7, 8] [9, 2] [609] [(True), (Cn.NormC ((normP ⟨C, L, B⟩).C) ((normP ⟨C, L, B⟩).B) ∧ Cn.wayP ((normP ⟨C, L, B⟩).C) ((normP ⟨C, L, B⟩).B) = 2), (Cn.NormC ((normP ⟨C, L, B⟩).C) ((normP ⟨C, L, B⟩).B) ∧ Cn.evB ((normP ⟨C, L, B⟩).C) = true ∧ ((normP ⟨C, L, B⟩).L).length = ((normP ⟨C, L, B⟩).C).length ∧ (∀ x ∈ ((normP ⟨C, L, B⟩).L), x ≠ 0 ∧ -65536 ≤ x ∧ x ≤ 65536) ∧ Fit next ∧ -65537 ≤ g ∧ g ≤ 65537)] ?_ ?_
      ·
       refine ap ?_ (ap ?_ (ap ?_ az)) <;>
        first | omega | exact id | exact vcNot | exact vcG | exact vcH | (intro _; omega) | exact (fun _ h => h) | (intro h; simp at h; omega) | (simp only [List.length_cons, List.length_nil, List.length_append, List.length_map, List.length_set, List.length_replicate]; omega) | (intro h; simp [h]; done) | exact True.intro | exact ⟨n1, hk⟩ | (constructor <;> omega) | exact ⟨n1, Cn.way_ev (.inl hk), n2, n3, hf2, by omega, by omega⟩ | exact ⟨n1, Cn.way_ev (.inr hk), n2, n3, hf2, by omega, by omega⟩ | exact ⟨n1.1, n2, by omega, by omega⟩ | exact ⟨by have := n1.1; omega, by omega, by omega⟩ | done
      exact Ft (Zr (Rv hcx (congrArg AV.tup (consE (congrArg AV.intss (show (Cn.encT ((normP ⟨C, L, B⟩).C) ((normP ⟨C, L, B⟩).L) ((normP ⟨C, L, B⟩).B) g next).1 = (Cn.oneR C L B g next).1 from (by first | (rw [hr]; done) | (rw [hr, Cn.es_1 hk]; done) | (rw [hr, Cn.es_2 hk]; done) | (rw [hr, Cn.es_3 hk]; done) | (rw [hr, Cn.es_4 hk]; done) | (rw [hr, Cn.es_5 hk]; done) | (rw [hr, Cn.es_6 hk]; done)))) (consE (congrArg AV.int (show (Cn.encT ((normP ⟨C, L, B⟩).C) ((normP ⟨C, L, B⟩).L) ((normP ⟨C, L, B⟩).B) g next).2.1 = (Cn.oneR C L B g next).2.1 from (by first | (rw [hr]; done) | (rw [hr, Cn.es_1 hk]; done) | (rw [hr, Cn.es_2 hk]; done) | (rw [hr, Cn.es_3 hk]; done) | (rw [hr, Cn.es_4 hk]; done) | (rw [hr, Cn.es_5 hk]; done) | (rw [hr, Cn.es_6 hk]; done)))) (consE (congrArg AV.int (show (Cn.encT ((normP ⟨C, L, B⟩).C) ((normP ⟨C, L, B⟩).L) ((normP ⟨C, L, B⟩).B) g next).2.2 = (Cn.oneR C L B g next).2.2 from (by first | (rw [hr]; done) | (rw [hr, Cn.es_1 hk]; done) | (rw [hr, Cn.es_2 hk]; done) | (rw [hr, Cn.es_3 hk]; done) | (rw [hr, Cn.es_4 hk]; done) | (rw [hr, Cn.es_5 hk]; done) | (rw [hr, Cn.es_6 hk]; done)))) rfl)))) [] rfl))
     ·
      refine Tcd cxW3 cxW3_ok hmx [0, 0, 3, 7, 0, 0, 63, 127, 127, 127, 1023, 2047, 4095] [] [6, 7, 8] [9, 2] [609] [(True), (Cn.NormC ((normP ⟨C, L, B⟩).C) ((normP ⟨C, L, B⟩).B) ∧ Cn.wayP ((normP ⟨C, L, B⟩).C) ((normP ⟨C, L, B⟩).B) = 3), (Cn.NormC ((normP ⟨C, L, B⟩).C) ((normP ⟨C, L, B⟩).B) ∧ Cn.evB ((normP ⟨C, L, B⟩).C) = true ∧ ((normP ⟨C, L, B⟩).L).length = ((normP ⟨C, L, B⟩).C).length ∧ (∀ x ∈ ((normP ⟨C, L, B⟩).L), x ≠ 0 ∧ -65536 ≤ x ∧ x ≤ 65536) ∧ Fit next ∧ -65537 ≤ g ∧ g ≤ 65537)] ?_ ?_
      ·
       refine ap ?_ (ap ?_ (ap ?_ az)) <;>
        first | omega | exact id | exact vcNot | exact vcG | exact vcH | (intro _; omega) | exact (fun _ h => h) | (intro h; simp at h; omega) | (simp only [List.length_cons, List.length_nil, List.length_append, List.length_map, List.length_set, List.length_replicate]; omega) | (intro h; simp [h]; done) | exact True.intro | exact ⟨n1, hk⟩ | (constructor <;> omega) | exact ⟨n1, Cn.way_ev (.inl hk), n2, n3, hf2, by omega, by omega⟩ | exact ⟨n1, Cn.way_ev (.inr hk), n2, n3, hf2, by omega, by omega⟩ | exact ⟨n1.1, n2, by omega, by omega⟩ | exact ⟨by have := n1.1; omega, by omega, by omega⟩ | done
      exact Ft (Zr (Rv hcx (congrArg AV.tup (consE (congrArg AV.intss (show (Cn.encN ((normP ⟨C, L, B⟩).C) ((normP ⟨C, L, B⟩).L) ((normP ⟨C, L, B⟩).B) g next).1 = (Cn.oneR C L B g next).1 from (by first | (rw [hr]; done) | (rw [hr, Cn.es_1 hk]; done) | (rw [hr, Cn.es_2 hk]; done) | (rw [hr, Cn.es_3 hk]; done) | (rw [hr, Cn.es_4 hk]; done) | (rw [hr, Cn.es_5 hk]; done) | (rw [hr, Cn.es_6 hk]; done)))) (consE (congrArg AV.int (show (Cn.encN ((normP ⟨C, L, B⟩).C) ((normP ⟨C, L, B⟩).L) ((normP ⟨C, L, B⟩).B) g next).2.1 = (Cn.oneR C L B g next).2.1 from (by first | (rw [hr]; done) | (rw [hr, Cn.es_1 hk]; done) | (rw [hr, Cn.es_2 hk]; done) | (rw [hr, Cn.es_3 hk]; done) | (rw [hr, Cn.es_4 hk]; done) | (rw [hr, Cn.es_5 hk]; done) | (rw [hr, Cn.es_6 hk]; done)))) (consE (congrArg AV.int (show (Cn.encN ((normP ⟨C, L, B⟩).C) ((normP ⟨C, L, B⟩).L) ((normP ⟨C, L, B⟩).B) g next).2.2 = (Cn.oneR C L B g next).2.2 from (by first | (rw [hr]; done) | (rw [hr, Cn.es_1 hk]; done) | (rw [hr, Cn.es_2 hk]; done) | (rw [hr, Cn.es_3 hk]; done) | (rw [hr, Cn.es_4 hk]; done) | (rw [hr, Cn.es_5 hk]; done) | (rw [hr, Cn.es_6 hk]; done)))) rfl)))) [] rfl))
     ·
      refine Tcd cxW4 cxW4_ok hmx [0, 0, 3, 7, 0, 0, 63, 127, 127, 127, 1023, 2047, 4095] [] [6, 7, 8] [9, 2] [609] [(True), (Cn.NormC ((normP ⟨C, L, B⟩).C) ((normP ⟨C, L, B⟩).B) ∧ Cn.wayP ((normP ⟨C, L, B⟩).C) ((normP ⟨C, L, B⟩).B) = 4), (((normP ⟨C, L, B⟩).C).length ≤ 4096 ∧ ((normP ⟨C, L, B⟩).L).length = ((normP ⟨C, L, B⟩).C).length ∧ -65537 ≤ g ∧ g ≤ 65537)] ?_ ?_
      ·
       refine ap ?_ (ap ?_ (ap ?_ az)) <;>
        first | omega | exact id | exact vcNot | exact vcG | exact vcH | (intro _; omega) | exact (fun _ h => h) | (intro h; simp at h; omega) | (simp only [List.length_cons, List.length_nil, List.length_append, List.length_map, List.length_set, List.length_replicate]; omega) | (intro h; simp [h]; done) | exact True.intro | exact ⟨n1, hk⟩ | (constructor <;> omega) | exact ⟨n1, Cn.way_ev (.inl hk), n2, n3, hf2, by omega, by omega⟩ | exact ⟨n1, Cn.way_ev (.inr hk), n2, n3, hf2, by omega, by omega⟩ | exact ⟨n1.1, n2, by omega, by omega⟩ | exact ⟨by have := n1.1; omega, by omega, by omega⟩ | done
      exact Ft (Zr (Rv hcx (congrArg AV.tup (consE (congrArg AV.intss (show (Cn.encA ((normP ⟨C, L, B⟩).C) ((normP ⟨C, L, B⟩).L) ((normP ⟨C, L, B⟩).B) g next).1 = (Cn.oneR C L B g next).1 from (by first | (rw [hr]; done) | (rw [hr, Cn.es_1 hk]; done) | (rw [hr, Cn.es_2 hk]; done) | (rw [hr, Cn.es_3 hk]; done) | (rw [hr, Cn.es_4 hk]; done) | (rw [hr, Cn.es_5 hk]; done) | (rw [hr, Cn.es_6 hk]; done)))) (consE (congrArg AV.int (show (Cn.encA ((normP ⟨C, L, B⟩).C) ((normP ⟨C, L, B⟩).L) ((normP ⟨C, L, B⟩).B) g next).2.1 = (Cn.oneR C L B g next).2.1 from (by first | (rw [hr]; done) | (rw [hr, Cn.es_1 hk]; done) | (rw [hr, Cn.es_2 hk]; done) | (rw [hr, Cn.es_3 hk]; done) | (rw [hr, Cn.es_4 hk]; done) | (rw [hr, Cn.es_5 hk]; done) | (rw [hr, Cn.es_6 hk]; done)))) (consE (congrArg AV.int (show (Cn.encA ((normP ⟨C, L, B⟩).C) ((normP ⟨C, L, B⟩).L) ((normP ⟨C, L, B⟩).B) g next).2.2 = (Cn.oneR C L B g next).2.2 from (by first | (rw [hr]; done) | (rw [hr, Cn.es_1 hk]; done) | (rw [hr, Cn.es_2 hk]; done) | (rw [hr, Cn.es_3 hk]; done) | (rw [hr, Cn.es_4 hk]; done) | (rw [hr, Cn.es_5 hk]; done) | (rw [hr, Cn.es_6 hk]; done)))) rfl)))) [] rfl))
     ·
      refine Tcd cxW5 cxW5_ok hmx [0, 0, 3, 7, 0, 0, 63, 127, 127, 127, 1023, 2047, 4095] [] [6, 7, 8] [9, 2] [609] [(True), (Cn.NormC ((normP ⟨C, L, B⟩).C) ((normP ⟨C, L, B⟩).B) ∧ Cn.wayP ((normP ⟨C, L, B⟩).C) ((normP ⟨C, L, B⟩).B) = 5), (True)] ?_ ?_
      ·
       refine ap ?_ (ap ?_ (ap ?_ az)) <;>
        first | omega | exact id | exact vcNot | exact vcG | exact vcH | (intro _; omega) | exact (fun _ h => h) | (intro h; simp at h; omega) | (simp only [List.length_cons, List.length_nil, List.length_append, List.length_map, List.length_set, List.length_replicate]; omega) | (intro h; simp [h]; done) | exact True.intro | exact ⟨n1, hk⟩ | (constructor <;> omega) | exact ⟨n1, Cn.way_ev (.inl hk), n2, n3, hf2, by omega, by omega⟩ | exact ⟨n1, Cn.way_ev (.inr hk), n2, n3, hf2, by omega, by omega⟩ | exact ⟨n1.1, n2, by omega, by omega⟩ | exact ⟨by have := n1.1; omega, by omega, by omega⟩ | done
      exact Ft (Zr (Fp 6 (.intss []) (Rv hcx (congrArg AV.tup (consE (congrArg AV.intss (show [] = (Cn.oneR C L B g next).1 from (by first | (rw [hr]; done) | (rw [hr, Cn.es_1 hk]; done) | (rw [hr, Cn.es_2 hk]; done) | (rw [hr, Cn.es_3 hk]; done) | (rw [hr, Cn.es_4 hk]; done) | (rw [hr, Cn.es_5 hk]; done) | (rw [hr, Cn.es_6 hk]; done)))) (consE (congrArg AV.int (show next = (Cn.oneR C L B g next).2.1 from (by first | (rw [hr]; done) | (rw [hr, Cn.es_1 hk]; done) | (rw [hr, Cn.es_2 hk]; done) | (rw [hr, Cn.es_3 hk]; done) | (rw [hr, Cn.es_4 hk]; done) | (rw [hr, Cn.es_5 hk]; done) | (rw [hr, Cn.es_6 hk]; done)))) (consE (congrArg AV.int (show 0 = (Cn.oneR C L B g next).2.2 from (by first | (rw [hr]; done) | (rw [hr, Cn.es_1 hk]; done) | (rw [hr, Cn.es_2 hk]; done) | (rw [hr, Cn.es_3 hk]; done) | (rw [hr, Cn.es_4 hk]; done) | (rw [hr, Cn.es_5 hk]; done) | (rw [hr, Cn.es_6 hk]; done)))) rfl)))) [] rfl)))
     ·
      refine Tcd cxW6 cxW6_ok hmx [0, 0, 3, 7, 0, 0, 63, 127, 127, 127, 1023, 2047, 4095] [(1006, .to 242)] [6, 7, 8] [9, 2] [609] [(True), (Cn.NormC ((normP ⟨C, L, B⟩).C) ((normP ⟨C, L, B⟩).B) ∧ Cn.wayP ((normP ⟨C, L, B⟩).C) ((normP ⟨C, L, B⟩).B) = 6), (-65537 ≤ g ∧ g ≤ 65537)] ?_ ?_
      ·
       refine ap ?_ (ap ?_ (ap ?_ az)) <;>
        first | omega | exact id | exact vcNot | exact vcG | exact vcH | (intro _; omega) | exact (fun _ h => h) | (intro h; simp at h; omega) | (simp only [List.length_cons, List.length_nil, List.length_append, List.length_map, List.length_set, List.length_replicate]; omega) | (intro h; simp [h]; done) | exact True.intro | exact ⟨n1, hk⟩ | (constructor <;> omega) | exact ⟨n1, Cn.way_ev (.inl hk), n2, n3, hf2, by omega, by omega⟩ | exact ⟨n1, Cn.way_ev (.inr hk), n2, n3, hf2, by omega, by omega⟩ | exact ⟨n1.1, n2, by omega, by omega⟩ | exact ⟨by have := n1.1; omega, by omega, by omega⟩ | done
      exact Ft (Zr (Fn [(242, .frz)] [6, 7, 8] (Rv hcx (congrArg AV.tup (consE (congrArg AV.intss (show (Cn.grd g [[]]) = (Cn.oneR C L B g next).1 from (by first | (rw [hr]; done) | (rw [hr, Cn.es_1 hk]; done) | (rw [hr, Cn.es_2 hk]; done) | (rw [hr, Cn.es_3 hk]; done) | (rw [hr, Cn.es_4 hk]; done) | (rw [hr, Cn.es_5 hk]; done) | (rw [hr, Cn.es_6 hk]; done)))) (consE (congrArg AV.int (show next = (Cn.oneR C L B g next).2.1 from (by first | (rw [hr]; done) | (rw [hr, Cn.es_1 hk]; done) | (rw [hr, Cn.es_2 hk]; done) | (rw [hr, Cn.es_3 hk]; done) | (rw [hr, Cn.es_4 hk]; done) | (rw [hr, Cn.es_5 hk]; done) | (rw [hr, Cn.es_6 hk]; done)))) (consE (congrArg AV.int (show 0 = (Cn.oneR C L B g next).2.2 from (by first | (rw [hr]; done) | (rw [hr, Cn.es_1 hk]; done) | (rw [hr, Cn.es_2 hk]; done) | (rw [hr, Cn.es_3 hk]; done) | (rw [hr, Cn.es_4 hk]; done) | (rw [hr, Cn.es_5 hk]; done) | (rw [hr, Cn.es_6 hk]; done)))) rfl)))) [] rfl)))
 ·
  cases hσ
def cx_eAll : Cx := ⟨tyEnc, [(7, (coeF [.agg [.ld (.ints []), .ld (.ints []), .id], .id, .id] eOne_σ))], true⟩
theorem cx_eAll_ok : CxOk Tryd.prog cx_eAll := cx_ok tyEnc_ok ⟨(eOne_sound.coe [.agg [.ld (.ints []), .ld (.ints []), .id], .id, .id] rfl), trivial⟩
def eAll_σ : CtF
  | [.im (.ls (.lins l)), .im (.val (.int .i64 next))], [] => some (l.length ≤ 100 ∧ Fit next, .tup [.intss ((Cn.allR l next).1), .int ((Cn.allR l next).2.1), .int ((Cn.allR l next).2.2)], [])
  | _, _ => none
theorem eAll_sound : Sound Tryd.prog 6 eAll_σ := by
 refine Sw (cx := cx_eAll) Tryd.f6 Tryd.func6 ?_
 intro wW wO wβ G0 args os p r outs hσ hp
 have hcx := cx_eAll_ok
 unfold eAll_σ at hσ
 split at hσ
 ·
  rename_i l next
  cases hσ
  refine ⟨by kernel_rfl, ?_⟩
  obtain ⟨hm1, hf⟩ := hp
  have hsb := Cn.allSt_bd (l := l) hf
  refine Sz hcx [] [4] [] [] (Zs (Sq hcx [] [17] [] [] [((!(decide (next < 1))) = true → ((!(decide (next < 1))) = true)), ((decide (next < 1)) = false → (!(decide (next < 1))) = true)] ?_ (Zi (b := (decide (next < 1)) || (decide (next > 65537))) (fun h0 => ?_) fun h0 => ?_)))
  ·
   refine ap ?_ (ap (by exact vcNot) az)
   first | omega | exact id | exact vcNot | exact vcG | exact vcH | (intro _; omega) | exact (fun _ h => h) | (intro h; simp at h; omega) | (simp only [List.length_cons, List.length_nil, List.length_append, List.length_map, List.length_set, List.length_replicate]; omega) | (intro h; simp [h]; done) | exact ⟨by decide, hsi.2⟩ | (unfold maxLen; omega) | done
  ·
   have hr : Cn.allR l next = ([], 0, 1) := if_pos (Cn.on_b.1 h0)
   exact Sz hcx [] [4, 5, 6] [17, 0, 1] [] (Zr (Fr (Fp 4 (.intss []) (Rv hcx (congrArg AV.tup (consE (congrArg AV.intss (show [] = (Cn.allR l next).1 from (by first | (rw [hr]; done) | (rw [hr]; rfl) | (rw [Cn.al_end (by omega) hI2]; done)))) (consE (congrArg AV.int (show 0 = (Cn.allR l next).2.1 from (by first | (rw [hr]; done) | (rw [hr]; rfl) | (rw [Cn.al_end (by omega) hI2]; done)))) (consE (congrArg AV.int (show 1 = (Cn.allR l next).2.2 from (by first | (rw [hr]; done) | (rw [hr]; rfl) | (rw [Cn.al_end (by omega) hI2]; done)))) rfl)))) [] rfl))))
  ·
   have h17_ := Cn.on_bF h0
   refine Zk (Ft (Zs (Sz hcx [] [18, 19, 20] [17, 0] [] (Zb (Zw 4 700 24 (.intss []) (Lp (X := Nat) (fun x0 => x0 ≤ l.length ∧ Cn.allR l next = Cn.allL (l.drop x0) (Cn.allSt l next x0).2 (Cn.allSt l next x0).1) (fun x0 => ([(1, .int ((Cn.allSt l next x0).2)), (4, .row 700), (18, .lins l), (19, .int (l.length : Int)), (20, .int (x0 : Int))], [(700, .row 24 (.intss ((Cn.allSt l next x0).1)))])) (fun x0 => l.length - x0) (0) ?_ (Ex 20 (congrArg AV.int (show 0 = (0 : Int) from (by first | rfl | omega | (simp; done)))) Eb) Hb fun i hI => ?_))))))
   ·
    exact ⟨Nat.zero_le _, Cn.al_0 h17_⟩
   ·
    try dsimp only at hI
    obtain ⟨hk, hI2⟩ := hI
    have hsi := hsb i
    have hob := Cn.one_bd (l.getD i ([], [], 0)).1 (l.getD i ([], [], 0)).2.1 (l.getD i ([], [], 0)).2.2 0 (Cn.allSt l next i).2
    refine Sz hcx [] [21] [] [] (Zs (Zj (p := ((i : Int) < (l.length : Int))) (fun h1 => ?_) fun h1 => ?_))
    ·
     refine Zk (Ft (Zs (Zb (Sq hcx [(1002, .to 608)] [8] [21] [] [((0 : Int) ≤ (i : Int) ∧ (i : Int) < (l.length : Int))] ?_ (Sq hcx [] [9, 10, 11] [8, 1] [608] [(Fit (0 : Int) ∧ Fit ((Cn.allSt l next i).2))] ?_ (Zs (Sz hcx [] [32] [] [] (Zx (a := ((Cn.oneR ((l.getD i ([], [], 0)).1) ((l.getD i ([], [], 0)).2.1) ((l.getD i ([], [], 0)).2.2) (0 : Int) ((Cn.allSt l next i).2)).2.2)) (b := 0) (fun h2 => ?_) fun h2 => ?_))))))))
     ·
      refine ap ?_ az
      first | omega | exact id | exact vcNot | exact vcG | exact vcH | (intro _; omega) | exact (fun _ h => h) | (intro h; simp at h; omega) | (simp only [List.length_cons, List.length_nil, List.length_append, List.length_map, List.length_set, List.length_replicate]; omega) | (intro h; simp [h]; done) | exact ⟨by decide, hsi.2⟩ | (unfold maxLen; omega) | done
     ·
      refine ap ?_ az
      first | omega | exact id | exact vcNot | exact vcG | exact vcH | (intro _; omega) | exact (fun _ h => h) | (intro h; simp at h; omega) | (simp only [List.length_cons, List.length_nil, List.length_append, List.length_map, List.length_set, List.length_replicate]; omega) | (intro h; simp [h]; done) | exact ⟨by decide, hsi.2⟩ | (unfold maxLen; omega) | done
     ·
      have hr := Cn.al_err (i := i) (by omega) hI2 h2
      exact Sz hcx [] [4, 5, 6] [32, 9, 10, 11, 18, 19, 20] [700] (Zr (Fr (Fk (Fr (Fr (Fk (Fr (Fp 4 (.intss []) (Rv hcx (congrArg AV.tup (consE (congrArg AV.intss (show [] = (Cn.allR l next).1 from (by first | (rw [hr]; done) | (rw [hr]; rfl) | (rw [Cn.al_end (by omega) hI2]; done)))) (consE (congrArg AV.int (show 0 = (Cn.allR l next).2.1 from (by first | (rw [hr]; done) | (rw [hr]; rfl) | (rw [Cn.al_end (by omega) hI2]; done)))) (consE (congrArg AV.int (show (Cn.oneR ((l.getD i ([], [], 0)).1) ((l.getD i ([], [], 0)).2.1) ((l.getD i ([], [], 0)).2.2) (0 : Int) ((Cn.allSt l next i).2)).2.2 = (Cn.allR l next).2.2 from (by first | (rw [hr]; done) | (rw [hr]; rfl) | (rw [Cn.al_end (by omega) hI2]; done)))) rfl)))) [] rfl)))))))))
     ·
      have h32_ : Cn.allE l next i = 0 := by first | exact h2 | exact Decidable.not_not.1 h2
      refine Zk (Ft (Tq hcx [(1002, .to 700)] [1, 4] [32, 9, 10, 11] [700] [((((Cn.allSt l next i).1).length + ((Cn.oneR ((l.getD i ([], [], 0)).1) ((l.getD i ([], [], 0)).2.1) ((l.getD i ([], [], 0)).2.2) (0 : Int) ((Cn.allSt l next i).2)).1).length) * 24 ≤ 140737488355328)] ?_ (Fb (Ft (Tq hcx [] [20] [] [] [Fit ((i : Int) + 1)] ?_ (Lr (i + 1) ?_ ?_ (Ex 20 (congrArg AV.int (show ((i : Int) + 1) = ((i + 1) : Int) from (by first | rfl | omega | (simp; done)))) Eb) Hb))))))
      ·
       refine ap ?_ az
       first | omega | exact id | exact vcNot | exact vcG | exact vcH | (intro _; omega) | exact (fun _ h => h) | (intro h; simp at h; omega) | (simp only [List.length_cons, List.length_nil, List.length_append, List.length_map, List.length_set, List.length_replicate]; omega) | (intro h; simp [h]; done) | exact ⟨by decide, hsi.2⟩ | (unfold maxLen; omega) | done
      ·
       refine ap ?_ az
       first | omega | exact id | exact vcNot | exact vcG | exact vcH | (intro _; omega) | exact (fun _ h => h) | (intro h; simp at h; omega) | (simp only [List.length_cons, List.length_nil, List.length_append, List.length_map, List.length_set, List.length_replicate]; omega) | (intro h; simp [h]; done) | exact ⟨by decide, hsi.2⟩ | (unfold maxLen; omega) | done
      ·
       exact ⟨by omega, Cn.al_step (by omega) hI2 h32_⟩
      ·
       show l.length - (i + 1) < l.length - i
       omega
    ·
     exact Ze (Fe (Fe (Fs (Ft (Sz hcx [] [4, 5, 6] [21, 1, 18, 19, 20] [] (Zr (Fn [(700, .frz)] [4, 5, 6] (Rv hcx (congrArg AV.tup (consE (congrArg AV.intss (show (Cn.allSt l next i).1 = (Cn.allR l next).1 from (by first | (rw [hr]; done) | (rw [hr]; rfl) | (rw [Cn.al_end (by omega) hI2]; done)))) (consE (congrArg AV.int (show (Cn.allSt l next i).2 = (Cn.allR l next).2.1 from (by first | (rw [hr]; done) | (rw [hr]; rfl) | (rw [Cn.al_end (by omega) hI2]; done)))) (consE (congrArg AV.int (show 0 = (Cn.allR l next).2.2 from (by first | (rw [hr]; done) | (rw [hr]; rfl) | (rw [Cn.al_end (by omega) hI2]; done)))) rfl)))) [] rfl))))))))
 ·
  cases hσ
end Go.Proofs.YtkkapbnopmmmjaaDoor.En
namespace Go.Proofs.YtkkapbnopmmmjaaDoor.En
open Go Go.RowKit
def tyLv18 : List (Nat × TD) := [(3, ⟨1, false, [.int .i64 0], [], none, 8, false, 1, 1⟩),
  (22, ⟨1, false, [.slice none 0 0], [], some 26, 24, false, 0, 0⟩),
  (24, ⟨1, false, [.slice none 0 0], [], some 3, 24, false, 0, 3⟩),
  (26, ⟨3, true, [.slice none 0 0, .slice none 0 0, .int .i64 0], [(0, 24), (1, 24), (2, 3)], none, 56, false, 0, 5⟩),
  (27, ⟨1, false, [.slice none 0 0], [], some 24, 24, false, 0, 0⟩),
  (28, ⟨1, false, [.int .i64 0], [], none, 8, false, 1, 1⟩)]
theorem tyLv18_ok : AllTy Tryd.prog tyLv18 := ⟨⟨by kernel_rfl, by kernel_rfl, by kernel_rfl⟩, ⟨by kernel_rfl, by kernel_rfl, by kernel_rfl⟩, ⟨by kernel_rfl, by kernel_rfl, by kernel_rfl⟩, ⟨by kernel_rfl, by kernel_rfl, by kernel_rfl⟩, ⟨by kernel_rfl, by kernel_rfl, by kernel_rfl⟩, ⟨by kernel_rfl, by kernel_rfl, by kernel_rfl⟩, trivial⟩
def cx_rInts15 : Cx := ⟨tyLv18, [], true⟩
theorem cx_rInts15_ok : CxOk Tryd.prog cx_rInts15 := cx_ok tyLv18_ok trivial
def rInts15_σ : CtF
  | [.im (.ls (.ints a)), .im (.ls (.ints b))], [] => some (a.length ≤ maxLen, .bool (decide (a = b)), [])
  | _, _ => none
theorem rInts15_sound : Sound Tryd.prog 18 rInts15_σ := by
 refine Sw (cx := cx_rInts15) Tryd.f18 Tryd.func18 ?_
 intro wW wO wβ G0 args os p r outs hσ hp
 have hcx := cx_rInts15_ok
 have hmx : Tryd.prog.follows .mixedOrders = true := by kernel_rfl
 unfold rInts15_σ at hσ
 split at hσ
 ·
  rename_i a b
  cases hσ
  refine ⟨by kernel_rfl, ?_⟩
  have hm1 := hp
  unfold maxLen at hm1
  refine Sz hcx [] [] [] [] (Zs (Sz hcx [] [10] [] [] (Zi (b := (a.length : Int) != (b.length : Int)) (fun h0 => ?_) fun h0 => ?_)))
  ·
   replace h0 := bne_iff_ne.1 h0
   exact Sz hcx [] [4] [10, 0, 1] [] (Zr (Fr (Rv hcx (congrArg AV.bool (show false = decide (a = b) from (by first | exact (Cn.eqL_len (by omega)).symm | exact (Cn.eqL_no (i := i) hq).symm | exact (Cn.eqL_yes hab (by omega) hok).symm))) [] rfl)))
  ·
   replace h0 := bneF h0
   refine Zk (Ft (Zs (Sz hcx [] [5] [10] [] (Zb (Lp (X := Nat) (fun x0 => x0 ≤ a.length ∧ ∀ j, j < x0 → a.getD j 0 = b.getD j 0) (fun x0 => ([(0, .ints a), (1, .ints b), (5, .int (x0 : Int))], [])) (fun x0 => a.length - x0) (0) ?_ (Ex 5 (congrArg AV.int (show 0 = (0 : Int) from (by first | rfl | omega | (simp; done)))) Eb) Hb fun i hI => ?_)))))
   ·
    exact ⟨Nat.zero_le _, fun j hj => by omega⟩
   ·
    try dsimp only at hI
    obtain ⟨hk, hok⟩ := hI
    have hab : a.length = b.length := by omega
    refine Zs (Sz hcx [] [14] [] [] (Zj (p := ((i : Int) < (a.length : Int))) (fun h1 => ?_) fun h1 => ?_))
    ·
     refine Zk (Ft (Zs (Zb (Sd hcx hmx [0, 0, 3, 7, 0, 0, 48, 112, 255] [] [25] [14] [] [((0 : Int) ≤ (i : Int) ∧ (i : Int) < (a.length : Int)), ((0 : Int) ≤ (i : Int) ∧ (i : Int) < (b.length : Int))] ?_ (Zi (b := (a.getD i 0) != (b.getD i 0)) (fun h2 => ?_) fun h2 => ?_)))))
     ·
      refine ap ?_ (ap ?_ az) <;>
       first | omega | exact id | exact vcNot | exact vcG | exact vcH | (intro _; omega) | exact (fun _ h => h) | (intro h; simp at h; omega) | (simp only [List.length_cons, List.length_nil, List.length_append, List.length_map, List.length_set, List.length_replicate]; omega) | (intro h; simp [h]; done) | (constructor <;> omega) | done
     ·
      replace h2 := bne_iff_ne.1 h2
      have hq := h2
      exact Sz hcx [] [4] [25, 0, 1, 5] [] (Zr (Fk (Fr (Fr (Fk (Fr (Rv hcx (congrArg AV.bool (show false = decide (a = b) from (by first | exact (Cn.eqL_len (by omega)).symm | exact (Cn.eqL_no (i := i) hq).symm | exact (Cn.eqL_yes hab (by omega) hok).symm))) [] rfl)))))))
     ·
      replace h2 := bneF h2
      have hq : a.getD i 0 = b.getD i 0 := by have := h2; omega
      refine Zk (Fb (Ft (Tq hcx [] [5] [25] [] [Fit ((i : Int) + 1)] ?_ (Lr (i + 1) ?_ ?_ (Ex 5 (congrArg AV.int (show ((i : Int) + 1) = ((i + 1) : Int) from (by first | rfl | omega | (simp; done)))) Eb) Hb))))
      ·
       refine ap ?_ az
       first | omega | exact id | exact vcNot | exact vcG | exact vcH | (intro _; omega) | exact (fun _ h => h) | (intro h; simp at h; omega) | (simp only [List.length_cons, List.length_nil, List.length_append, List.length_map, List.length_set, List.length_replicate]; omega) | (intro h; simp [h]; done) | (constructor <;> omega) | done
      ·
       exact ⟨by omega, fun j hj => by rcases (by omega : j < i ∨ j = i) with h | rfl; exact hok j h; exact hq⟩
      ·
       show a.length - (i + 1) < a.length - i
       omega
    ·
     exact Ze (Fe (Fe (Fs (Ft (Sz hcx [] [4] [14, 0, 1, 5] [] (Zr (Rv hcx (congrArg AV.bool (show true = decide (a = b) from (by first | exact (Cn.eqL_len (by omega)).symm | exact (Cn.eqL_no (i := i) hq).symm | exact (Cn.eqL_yes hab (by omega) hok).symm))) [] rfl)))))))
 ·
  cases hσ
def cx_rClauses15 : Cx := ⟨tyLv18, [(18, (coeF [.ld (.ints []), .ld (.ints [])] rInts15_σ))], true⟩
theorem cx_rClauses15_ok : CxOk Tryd.prog cx_rClauses15 := cx_ok tyLv18_ok ⟨(rInts15_sound.coe [.ld (.ints []), .ld (.ints [])] rfl), trivial⟩
def rClauses15_σ : CtF
  | [.im (.ls (.intss a)), .im (.ls (.intss b))], [] => some (a.length ≤ maxLen ∧ ∀ x ∈ a, x.length ≤ maxLen, .bool (decide (a = b)), [])
  | _, _ => none
theorem rClauses15_sound : Sound Tryd.prog 8 rClauses15_σ := by
 refine Sw (cx := cx_rClauses15) Tryd.f8 Tryd.func8 ?_
 intro wW wO wβ G0 args os p r outs hσ hp
 have hcx := cx_rClauses15_ok
 have hmx : Tryd.prog.follows .mixedOrders = true := by kernel_rfl
 unfold rClauses15_σ at hσ
 split at hσ
 ·
  rename_i a b
  cases hσ
  refine ⟨by kernel_rfl, ?_⟩
  obtain ⟨hm1, hm2⟩ := hp
  have hm3 := hm1
  unfold maxLen at hm3
  have hb := fun i (h : i < a.length) => hm2 _ (Cn.getD_memL (d := ([] : List Int)) (k := i) h)
  refine Sz hcx [] [] [] [] (Zs (Sz hcx [] [10] [] [] (Zi (b := (a.length : Int) != (b.length : Int)) (fun h0 => ?_) fun h0 => ?_)))
  ·
   replace h0 := bne_iff_ne.1 h0
   exact Sz hcx [] [4] [10, 0, 1] [] (Zr (Fr (Rv hcx (congrArg AV.bool (show false = decide (a = b) from (by first | exact (Cn.eqL_len (by omega)).symm | exact (Cn.eqL_no (i := i) hq).symm | exact (Cn.eqL_yes hab (by omega) hok).symm))) [] rfl)))
  ·
   replace h0 := bneF h0
   refine Zk (Ft (Zs (Sz hcx [] [5] [10] [] (Zb (Lp (X := Nat) (fun x0 => x0 ≤ a.length ∧ ∀ j, j < x0 → a.getD j [] = b.getD j []) (fun x0 => ([(0, .intss a), (1, .intss b), (5, .int (x0 : Int))], [])) (fun x0 => a.length - x0) (0) ?_ (Ex 5 (congrArg AV.int (show 0 = (0 : Int) from (by first | rfl | omega | (simp; done)))) Eb) Hb fun i hI => ?_)))))
   ·
    exact ⟨Nat.zero_le _, fun j hj => by omega⟩
   ·
    try dsimp only at hI
    obtain ⟨hk, hok⟩ := hI
    have hab : a.length = b.length := by omega
    have hbi := hb i
    refine Zs (Sz hcx [] [14] [] [] (Zj (p := ((i : Int) < (a.length : Int))) (fun h1 => ?_) fun h1 => ?_))
    ·
     refine Zk (Ft (Zs (Zb (Sd hcx hmx [0, 0, 3, 7, 0, 0, 48, 112, 255, 511] [] [26] [14] [] [((0 : Int) ≤ (i : Int) ∧ (i : Int) < (a.length : Int)), ((0 : Int) ≤ (i : Int) ∧ (i : Int) < (b.length : Int)), ((a.getD i []).length ≤ maxLen)] ?_ (Zi (b := !(decide ((a.getD i []) = (b.getD i [])))) (fun h2 => ?_) fun h2 => ?_)))))
     ·
      refine ap ?_ (ap ?_ (ap ?_ az)) <;>
       first | omega | exact id | exact vcNot | exact vcG | exact vcH | (intro _; omega) | exact (fun _ h => h) | (intro h; simp at h; omega) | (simp only [List.length_cons, List.length_nil, List.length_append, List.length_map, List.length_set, List.length_replicate]; omega) | (intro h; simp [h]; done) | exact hbi (by omega) | (constructor <;> omega) | done
     ·
      have hq := Cn.dcT h2
      exact Sz hcx [] [4] [26, 0, 1, 5] [] (Zr (Fk (Fr (Fr (Fk (Fr (Rv hcx (congrArg AV.bool (show false = decide (a = b) from (by first | exact (Cn.eqL_len (by omega)).symm | exact (Cn.eqL_no (i := i) hq).symm | exact (Cn.eqL_yes hab (by omega) hok).symm))) [] rfl)))))))
     ·
      have hq := Cn.dcF h2
      refine Zk (Fb (Ft (Tq hcx [] [5] [26] [] [Fit ((i : Int) + 1)] ?_ (Lr (i + 1) ?_ ?_ (Ex 5 (congrArg AV.int (show ((i : Int) + 1) = ((i + 1) : Int) from (by first | rfl | omega | (simp; done)))) Eb) Hb))))
      ·
       refine ap ?_ az
       first | omega | exact id | exact vcNot | exact vcG | exact vcH | (intro _; omega) | exact (fun _ h => h) | (intro h; simp at h; omega) | (simp only [List.length_cons, List.length_nil, List.length_append, List.length_map, List.length_set, List.length_replicate]; omega) | (intro h; simp [h]; done) | exact hbi (by omega) | (constructor <;> omega) | done
      ·
       exact ⟨by omega, fun j hj => by rcases (by omega : j < i ∨ j = i) with h | rfl; exact hok j h; exact hq⟩
      ·
       show a.length - (i + 1) < a.length - i
       omega
    ·
     exact Ze (Fe (Fe (Fs (Ft (Sz hcx [] [4] [14, 0, 1, 5] [] (Zr (Rv hcx (congrArg AV.bool (show true = decide (a = b) from (by first | exact (Cn.eqL_len (by omega)).symm | exact (Cn.eqL_no (i := i) hq).symm | exact (Cn.eqL_yes hab (by omega) hok).symm))) [] rfl)))))))
 ·
  cases hσ
def cx_lHas : Cx := ⟨tyLv18, [], true⟩
theorem cx_lHas_ok : CxOk Tryd.prog cx_lHas := cx_ok tyLv18_ok trivial
def lHas_σ : CtF
  | [.im (.ls (.ints l)), .im (.val (.int .i64 n))], [] => some (l.length ≤ maxLen, .bool (l.contains n), [])
  | _, _ => none
theorem lHas_sound : Sound Tryd.prog 13 lHas_σ := by
 refine Sw (cx := cx_lHas) Tryd.f13 Tryd.func13 ?_
 intro wW wO wβ G0 args os p r outs hσ hp
 have hcx := cx_lHas_ok
 unfold lHas_σ at hσ
 split at hσ
 ·
  rename_i l n
  cases hσ
  refine ⟨by kernel_rfl, ?_⟩
  have hm1 := hp
  unfold maxLen at hm1
  refine Sz hcx [] [] [] [] (Zs (Sz hcx [] [5] [] [] (Zb (Lp (X := Nat) (fun x0 => x0 ≤ l.length ∧ ∀ j, j < x0 → l.getD j 0 ≠ n) (fun x0 => ([(0, .ints l), (1, .int n), (5, .int (x0 : Int))], [])) (fun x0 => l.length - x0) (0) ?_ (Ex 5 (congrArg AV.int (show 0 = (0 : Int) from (by first | rfl | omega | (simp; done)))) Eb) Hb fun i hI => ?_))))
  ·
   exact ⟨Nat.zero_le _, fun j hj => by omega⟩
  ·
   try dsimp only at hI
   obtain ⟨hk, hok⟩ := hI
   refine Zs (Sz hcx [] [9] [] [] (Zj (p := ((i : Int) < (l.length : Int))) (fun h0 => ?_) fun h0 => ?_))
   ·
    refine Zk (Ft (Zs (Zb (Sq hcx [] [17] [9] [] [((0 : Int) ≤ (i : Int) ∧ (i : Int) < (l.length : Int))] ?_ (Zi (b := (l.getD i 0) == n) (fun h1 => ?_) fun h1 => ?_)))))
    ·
     refine ap ?_ az
     first | omega | exact id | exact vcNot | exact vcG | exact vcH | (intro _; omega) | exact (fun _ h => h) | (intro h; simp at h; omega) | (simp only [List.length_cons, List.length_nil, List.length_append, List.length_map, List.length_set, List.length_replicate]; omega) | (intro h; simp [h]; done) | done
    ·
     replace h1 := eq_of_beq h1
     have hq := h1
     exact Sz hcx [] [4] [17, 0, 1, 5] [] (Zr (Fk (Fr (Fr (Fk (Fr (Rv hcx (congrArg AV.bool (show true = (l.contains n) from (by first | exact (Cn.has_yes (i := i) (by omega) hq).symm | exact (Cn.has_no (by omega) hok).symm))) [] rfl)))))))
    ·
     replace h1 := neB h1
     have hq := h1
     refine Zk (Fb (Ft (Tq hcx [] [5] [17] [] [Fit ((i : Int) + 1)] ?_ (Lr (i + 1) ?_ ?_ (Ex 5 (congrArg AV.int (show ((i : Int) + 1) = ((i + 1) : Int) from (by first | rfl | omega | (simp; done)))) Eb) Hb))))
     ·
      refine ap ?_ az
      first | omega | exact id | exact vcNot | exact vcG | exact vcH | (intro _; omega) | exact (fun _ h => h) | (intro h; simp at h; omega) | (simp only [List.length_cons, List.length_nil, List.length_append, List.length_map, List.length_set, List.length_replicate]; omega) | (intro h; simp [h]; done) | done
     ·
      exact ⟨by omega, fun j hj => by rcases (by omega : j < i ∨ j = i) with h | rfl; exact hok j h; exact hq⟩
     ·
      show l.length - (i + 1) < l.length - i
      omega
   ·
    exact Ze (Fe (Fe (Fs (Ft (Sz hcx [] [4] [9, 0, 1, 5] [] (Zr (Rv hcx (congrArg AV.bool (show false = (l.contains n) from (by first | exact (Cn.has_yes (i := i) (by omega) hq).symm | exact (Cn.has_no (by omega) hok).symm))) [] rfl)))))))
 ·
  cases hσ
attribute [local irreducible] Cn.howR Cn.oneR Cn.allR
abbrev lvC1 : Bool := ((((Cn.howR [1, 1] [1, 2] (1 : Int)).1) == 1) && (((Cn.howR [1, 1] [1, 2] (1 : Int)).2) == 0))
abbrev lvC2 : Bool := (lvC1 && (((Cn.howR [1, 1] [1, 2] (2 : Int)).1) == 2))
abbrev lvC3 : Bool := (lvC2 && (((Cn.howR [1, 1] [1, 2] (2 : Int)).2) == 0))
abbrev lvC4 : Bool := (lvC3 && (((Cn.howR [2, 3, 4] [1, 2, 3] (5 : Int)).1) == 4))
abbrev lvC5 : Bool := (lvC4 && (((Cn.howR [2, 3, 4] [1, 2, 3] (5 : Int)).2) == 0))
abbrev lvC6 : Bool := (lvC5 && ((((((((((Cn.oneR [1, 1] [1, 2] (1 : Int) (9 : Int) (10 : Int)).1).length : Int) == 1) && (((((Cn.oneR [1, 1] [1, 2] (1 : Int) (9 : Int) (10 : Int)).1).getD 0 []).length : Int) == 3)) && ((((Cn.oneR [1, 1] [1, 2] (1 : Int) (9 : Int) (10 : Int)).1).getD 0 []).contains (-9))) && ((((Cn.oneR [1, 1] [1, 2] (1 : Int) (9 : Int) (10 : Int)).1).getD 0 []).contains (1 : Int))) && ((((Cn.oneR [1, 1] [1, 2] (1 : Int) (9 : Int) (10 : Int)).1).getD 0 []).contains (2 : Int))) && (((Cn.oneR [1, 1] [1, 2] (1 : Int) (9 : Int) (10 : Int)).2.1) == 10)) && (((Cn.oneR [1, 1] [1, 2] (1 : Int) (9 : Int) (10 : Int)).2.2) == 0)))
abbrev lvC7 : Bool := (lvC6 && (decide (((Cn.oneR ([] : List (Int)) ([] : List (Int)) (1 : Int) (-4) (10 : Int)).1) = [[4]])))
abbrev lvC8 : Bool := (lvC7 && (((Cn.oneR ([] : List (Int)) ([] : List (Int)) (1 : Int) (-4) (10 : Int)).2.2) == 0))
abbrev lvC9 : Bool := (lvC8 && (((Cn.oneR [1, 1] [1, 2] (1 : Int) (10 : Int) (10 : Int)).2.2) == 140))
abbrev lvC10 : Bool := (lvC9 && ((((Cn.allR [([], [], 0), ([1, 1], [1, 2], 1)] (3 : Int)).1).length : Int) == 1))
def cx_live18 : Cx := ⟨tyLv18, [(11, (coeF [.agg [.ld (.ints []), .ld (.ints []), .id]] eHow_σ)), (7, (coeF [.agg [.ld (.ints []), .ld (.ints []), .id], .id, .id] eOne_σ)), (6, (coeF [.ld (.lins []), .id] eAll_σ)), (8, (coeF [.ld (.intss []), .ld (.intss [])] rClauses15_σ)), (13, (coeF [.ld (.ints []), .id] lHas_σ))], true⟩
theorem cx_live18_ok : CxOk Tryd.prog cx_live18 := cx_ok tyLv18_ok ⟨(eHow_sound.coe [.agg [.ld (.ints []), .ld (.ints []), .id]] rfl), (eOne_sound.coe [.agg [.ld (.ints []), .ld (.ints []), .id], .id, .id] rfl), (eAll_sound.coe [.ld (.lins []), .id] rfl), (rClauses15_sound.coe [.ld (.intss []), .ld (.intss [])] rfl), (lHas_sound.coe [.ld (.ints []), .id] rfl), trivial⟩
def live18_σ : CtF
  | [], [] => some (True, .bool true, [])
  | _, _ => none
theorem live18_sound : Sound Tryd.prog 5 live18_σ := by
 refine Sw (cx := cx_live18) Tryd.f5 Tryd.func5 ?_
 intro wW wO wβ G0 args os p r outs hσ hp
 have hcx := cx_live18_ok
 unfold live18_σ at hσ
 split at hσ
 ·
  cases hσ
  refine ⟨by kernel_rfl, ?_⟩
  have h1 := Cn.lv18_1
  have h2 := Cn.lv18_2
  have h3 := Cn.lv18_3
  have h4 := Cn.lv18_4
  have h5 := Cn.lv18_5
  have h6 := Cn.lv18_6
  have h7 := Cn.lv18_7
  refine Sz hcx [] [] [] [] (Sz hcx [(1003, .to 601)] [1] [] [] (Sz hcx [(1003, .to 602)] [2] [] [] (Sz hcx [(1003, .to 603)] [3] [] [] (Sq hcx [] [4, 5] [] [] [(True)] ?_ (Sq hcx [] [6, 7] [2] [602] [(True)] ?_ (Sq hcx [] [8, 9] [3] [603] [(True)] ?_ (Sq hcx [] [10, 11, 12] [] [] [(Fit (9 : Int) ∧ Fit (10 : Int))] ?_ (Sq hcx [] [13, 15] [] [] [(Fit (-4) ∧ Fit (10 : Int))] ?_ (Sq hcx [] [18] [] [] [(Fit (10 : Int) ∧ Fit (10 : Int))] ?_ (Sq hcx [] [19, 21] [1] [601] [([([], [], 0), ([1, 1], [1, 2], 1)].length ≤ 100 ∧ Fit (3 : Int))] ?_ (Sq hcx [] [22] [10, 11, 12] [] [(((((Cn.oneR [1, 1] [1, 2] (1 : Int) (9 : Int) (10 : Int)).1).length : Int) == 1) = true → (((((Cn.oneR [1, 1] [1, 2] (1 : Int) (9 : Int) (10 : Int)).1).length : Int) == 1) = true)), (((((Cn.oneR [1, 1] [1, 2] (1 : Int) (9 : Int) (10 : Int)).1).length : Int) == 1) = true → ((0 : Int) ≤ 0 ∧ 0 < (((Cn.oneR [1, 1] [1, 2] (1 : Int) (9 : Int) (10 : Int)).1).length : Int))), (((((Cn.oneR [1, 1] [1, 2] (1 : Int) (9 : Int) (10 : Int)).1).length : Int) == 1) = true → (((((Cn.oneR [1, 1] [1, 2] (1 : Int) (9 : Int) (10 : Int)).1).length : Int) == 1) = true)), (((((Cn.oneR [1, 1] [1, 2] (1 : Int) (9 : Int) (10 : Int)).1).length : Int) == 1) = true → (((((Cn.oneR [1, 1] [1, 2] (1 : Int) (9 : Int) (10 : Int)).1).length : Int) == 1) = true)), (((((Cn.oneR [1, 1] [1, 2] (1 : Int) (9 : Int) (10 : Int)).1).length : Int) == 1) = true → (((((Cn.oneR [1, 1] [1, 2] (1 : Int) (9 : Int) (10 : Int)).1).length : Int) == 1) = true)), (((((Cn.oneR [1, 1] [1, 2] (1 : Int) (9 : Int) (10 : Int)).1).length : Int) == 1) = true → ((((Cn.oneR [1, 1] [1, 2] (1 : Int) (9 : Int) (10 : Int)).1).length : Int) == 1) = true), ((((((Cn.oneR [1, 1] [1, 2] (1 : Int) (9 : Int) (10 : Int)).1).length : Int) == 1) && (((((Cn.oneR [1, 1] [1, 2] (1 : Int) (9 : Int) (10 : Int)).1).getD 0 []).length : Int) == 3)) = true → ((((((Cn.oneR [1, 1] [1, 2] (1 : Int) (9 : Int) (10 : Int)).1).length : Int) == 1) && (((((Cn.oneR [1, 1] [1, 2] (1 : Int) (9 : Int) (10 : Int)).1).getD 0 []).length : Int) == 3)) = true)), ((((((Cn.oneR [1, 1] [1, 2] (1 : Int) (9 : Int) (10 : Int)).1).length : Int) == 1) && (((((Cn.oneR [1, 1] [1, 2] (1 : Int) (9 : Int) (10 : Int)).1).getD 0 []).length : Int) == 3)) = true → ((0 : Int) ≤ 0 ∧ 0 < (((Cn.oneR [1, 1] [1, 2] (1 : Int) (9 : Int) (10 : Int)).1).length : Int))), ((((((Cn.oneR [1, 1] [1, 2] (1 : Int) (9 : Int) (10 : Int)).1).length : Int) == 1) && (((((Cn.oneR [1, 1] [1, 2] (1 : Int) (9 : Int) (10 : Int)).1).getD 0 []).length : Int) == 3)) = true → ((((((Cn.oneR [1, 1] [1, 2] (1 : Int) (9 : Int) (10 : Int)).1).length : Int) == 1) && (((((Cn.oneR [1, 1] [1, 2] (1 : Int) (9 : Int) (10 : Int)).1).getD 0 []).length : Int) == 3)) = true)), ((((((Cn.oneR [1, 1] [1, 2] (1 : Int) (9 : Int) (10 : Int)).1).length : Int) == 1) && (((((Cn.oneR [1, 1] [1, 2] (1 : Int) (9 : Int) (10 : Int)).1).getD 0 []).length : Int) == 3)) = true → ((((((Cn.oneR [1, 1] [1, 2] (1 : Int) (9 : Int) (10 : Int)).1).length : Int) == 1) && (((((Cn.oneR [1, 1] [1, 2] (1 : Int) (9 : Int) (10 : Int)).1).getD 0 []).length : Int) == 3)) = true)), ((((((Cn.oneR [1, 1] [1, 2] (1 : Int) (9 : Int) (10 : Int)).1).length : Int) == 1) && (((((Cn.oneR [1, 1] [1, 2] (1 : Int) (9 : Int) (10 : Int)).1).getD 0 []).length : Int) == 3)) = true → ((((Cn.oneR [1, 1] [1, 2] (1 : Int) (9 : Int) (10 : Int)).1).getD 0 []).length ≤ maxLen)), ((((((Cn.oneR [1, 1] [1, 2] (1 : Int) (9 : Int) (10 : Int)).1).length : Int) == 1) && (((((Cn.oneR [1, 1] [1, 2] (1 : Int) (9 : Int) (10 : Int)).1).getD 0 []).length : Int) == 3)) = true → (((((Cn.oneR [1, 1] [1, 2] (1 : Int) (9 : Int) (10 : Int)).1).length : Int) == 1) && (((((Cn.oneR [1, 1] [1, 2] (1 : Int) (9 : Int) (10 : Int)).1).getD 0 []).length : Int) == 3)) = true), (((((((Cn.oneR [1, 1] [1, 2] (1 : Int) (9 : Int) (10 : Int)).1).length : Int) == 1) && (((((Cn.oneR [1, 1] [1, 2] (1 : Int) (9 : Int) (10 : Int)).1).getD 0 []).length : Int) == 3)) && ((((Cn.oneR [1, 1] [1, 2] (1 : Int) (9 : Int) (10 : Int)).1).getD 0 []).contains (-9))) = true → (((((((Cn.oneR [1, 1] [1, 2] (1 : Int) (9 : Int) (10 : Int)).1).length : Int) == 1) && (((((Cn.oneR [1, 1] [1, 2] (1 : Int) (9 : Int) (10 : Int)).1).getD 0 []).length : Int) == 3)) && ((((Cn.oneR [1, 1] [1, 2] (1 : Int) (9 : Int) (10 : Int)).1).getD 0 []).contains (-9))) = true)), (((((((Cn.oneR [1, 1] [1, 2] (1 : Int) (9 : Int) (10 : Int)).1).length : Int) == 1) && (((((Cn.oneR [1, 1] [1, 2] (1 : Int) (9 : Int) (10 : Int)).1).getD 0 []).length : Int) == 3)) && ((((Cn.oneR [1, 1] [1, 2] (1 : Int) (9 : Int) (10 : Int)).1).getD 0 []).contains (-9))) = true → ((0 : Int) ≤ 0 ∧ 0 < (((Cn.oneR [1, 1] [1, 2] (1 : Int) (9 : Int) (10 : Int)).1).length : Int))), (((((((Cn.oneR [1, 1] [1, 2] (1 : Int) (9 : Int) (10 : Int)).1).length : Int) == 1) && (((((Cn.oneR [1, 1] [1, 2] (1 : Int) (9 : Int) (10 : Int)).1).getD 0 []).length : Int) == 3)) && ((((Cn.oneR [1, 1] [1, 2] (1 : Int) (9 : Int) (10 : Int)).1).getD 0 []).contains (-9))) = true → (((((((Cn.oneR [1, 1] [1, 2] (1 : Int) (9 : Int) (10 : Int)).1).length : Int) == 1) && (((((Cn.oneR [1, 1] [1, 2] (1 : Int) (9 : Int) (10 : Int)).1).getD 0 []).length : Int) == 3)) && ((((Cn.oneR [1, 1] [1, 2] (1 : Int) (9 : Int) (10 : Int)).1).getD 0 []).contains (-9))) = true)), (((((((Cn.oneR [1, 1] [1, 2] (1 : Int) (9 : Int) (10 : Int)).1).length : Int) == 1) && (((((Cn.oneR [1, 1] [1, 2] (1 : Int) (9 : Int) (10 : Int)).1).getD 0 []).length : Int) == 3)) && ((((Cn.oneR [1, 1] [1, 2] (1 : Int) (9 : Int) (10 : Int)).1).getD 0 []).contains (-9))) = true → (((((((Cn.oneR [1, 1] [1, 2] (1 : Int) (9 : Int) (10 : Int)).1).length : Int) == 1) && (((((Cn.oneR [1, 1] [1, 2] (1 : Int) (9 : Int) (10 : Int)).1).getD 0 []).length : Int) == 3)) && ((((Cn.oneR [1, 1] [1, 2] (1 : Int) (9 : Int) (10 : Int)).1).getD 0 []).contains (-9))) = true)), (((((((Cn.oneR [1, 1] [1, 2] (1 : Int) (9 : Int) (10 : Int)).1).length : Int) == 1) && (((((Cn.oneR [1, 1] [1, 2] (1 : Int) (9 : Int) (10 : Int)).1).getD 0 []).length : Int) == 3)) && ((((Cn.oneR [1, 1] [1, 2] (1 : Int) (9 : Int) (10 : Int)).1).getD 0 []).contains (-9))) = true → ((((Cn.oneR [1, 1] [1, 2] (1 : Int) (9 : Int) (10 : Int)).1).getD 0 []).length ≤ maxLen)), (((((((Cn.oneR [1, 1] [1, 2] (1 : Int) (9 : Int) (10 : Int)).1).length : Int) == 1) && (((((Cn.oneR [1, 1] [1, 2] (1 : Int) (9 : Int) (10 : Int)).1).getD 0 []).length : Int) == 3)) && ((((Cn.oneR [1, 1] [1, 2] (1 : Int) (9 : Int) (10 : Int)).1).getD 0 []).contains (-9))) = true → ((((((Cn.oneR [1, 1] [1, 2] (1 : Int) (9 : Int) (10 : Int)).1).length : Int) == 1) && (((((Cn.oneR [1, 1] [1, 2] (1 : Int) (9 : Int) (10 : Int)).1).getD 0 []).length : Int) == 3)) && ((((Cn.oneR [1, 1] [1, 2] (1 : Int) (9 : Int) (10 : Int)).1).getD 0 []).contains (-9))) = true), ((((((((Cn.oneR [1, 1] [1, 2] (1 : Int) (9 : Int) (10 : Int)).1).length : Int) == 1) && (((((Cn.oneR [1, 1] [1, 2] (1 : Int) (9 : Int) (10 : Int)).1).getD 0 []).length : Int) == 3)) && ((((Cn.oneR [1, 1] [1, 2] (1 : Int) (9 : Int) (10 : Int)).1).getD 0 []).contains (-9))) && ((((Cn.oneR [1, 1] [1, 2] (1 : Int) (9 : Int) (10 : Int)).1).getD 0 []).contains (1 : Int))) = true → ((((((((Cn.oneR [1, 1] [1, 2] (1 : Int) (9 : Int) (10 : Int)).1).length : Int) == 1) && (((((Cn.oneR [1, 1] [1, 2] (1 : Int) (9 : Int) (10 : Int)).1).getD 0 []).length : Int) == 3)) && ((((Cn.oneR [1, 1] [1, 2] (1 : Int) (9 : Int) (10 : Int)).1).getD 0 []).contains (-9))) && ((((Cn.oneR [1, 1] [1, 2] (1 : Int) (9 : Int) (10 : Int)).1).getD 0 []).contains (1 : Int))) = true)), ((((((((Cn.oneR [1, 1] [1, 2] (1 : Int) (9 : Int) (10 : Int)).1).length : Int) == 1) && (((((Cn.oneR [1, 1] [1, 2] (1 : Int) (9 : Int) (10 : Int)).1).getD 0 []).length : Int) == 3)) && ((((Cn.oneR [1, 1] [1, 2] (1 : Int) (9 : Int) (10 : Int)).1).getD 0 []).contains (-9))) && ((((Cn.oneR [1, 1] [1, 2] (1 : Int) (9 : Int) (10 : Int)).1).getD 0 []).contains (1 : Int))) = true → ((0 : Int) ≤ 0 ∧ 0 < (((Cn.oneR [1, 1] [1, 2] (1 : Int) (9 : Int) (10 : Int)).1).length : Int))), ((((((((Cn.oneR [1, 1] [1, 2] (1 : Int) (9 : Int) (10 : Int)).1).length : Int) == 1) && (((((Cn.oneR [1, 1] [1, 2] (1 : Int) (9 : Int) (10 : Int)).1).getD 0 []).length : Int) == 3)) && ((((Cn.oneR [1, 1] [1, 2] (1 : Int) (9 : Int) (10 : Int)).1).getD 0 []).contains (-9))) && ((((Cn.oneR [1, 1] [1, 2] (1 : Int) (9 : Int) (10 : Int)).1).getD 0 []).contains (1 : Int))) = true → ((((((((Cn.oneR [1, 1] [1, 2] (1 : Int) (9 : Int) (10 : Int)).1).length : Int) == 1) && (((((Cn.oneR [1, 1] [1, 2] (1 : Int) (9 : Int) (10 : Int)).1).getD 0 []).length : Int) == 3)) && ((((Cn.oneR [1, 1] [1, 2] (1 : Int) (9 : Int) (10 : Int)).1).getD 0 []).contains (-9))) && ((((Cn.oneR [1, 1] [1, 2] (1 : Int) (9 : Int) (10 : Int)).1).getD 0 []).contains (1 : Int))) = true)), ((((((((Cn.oneR [1, 1] [1, 2] (1 : Int) (9 : Int) (10 : Int)).1).length : Int) == 1) && (((((Cn.oneR [1, 1] [1, 2] (1 : Int) (9 : Int) (10 : Int)).1).getD 0 []).length : Int) == 3)) && ((((Cn.oneR [1, 1] [1, 2] (1 : Int) (9 : Int) (10 : Int)).1).getD 0 []).contains (-9))) && ((((Cn.oneR [1, 1] [1, 2] (1 : Int) (9 : Int) (10 : Int)).1).getD 0 []).contains (1 : Int))) = true → ((((((((Cn.oneR [1, 1] [1, 2] (1 : Int) (9 : Int) (10 : Int)).1).length : Int) == 1) && (((((Cn.oneR [1, 1] [1, 2] (1 : Int) (9 : Int) (10 : Int)).1).getD 0 []).length : Int) == 3)) && ((((Cn.oneR [1, 1] [1, 2] (1 : Int) (9 : Int) (10 : Int)).1).getD 0 []).contains (-9))) && ((((Cn.oneR [1, 1] [1, 2] (1 : Int) (9 : Int) (10 : Int)).1).getD 0 []).contains (1 : Int))) = true)), ((((((((Cn.oneR [1, 1] [1, 2] (1 : Int) (9 : Int) (10 : Int)).1).length : Int) == 1) && (((((Cn.oneR [1, 1] [1, 2] (1 : Int) (9 : Int) (10 : Int)).1).getD 0 []).length : Int) == 3)) && ((((Cn.oneR [1, 1] [1, 2] (1 : Int) (9 : Int) (10 : Int)).1).getD 0 []).contains (-9))) && ((((Cn.oneR [1, 1] [1, 2] (1 : Int) (9 : Int) (10 : Int)).1).getD 0 []).contains (1 : Int))) = true → ((((Cn.oneR [1, 1] [1, 2] (1 : Int) (9 : Int) (10 : Int)).1).getD 0 []).length ≤ maxLen)), ((((((((Cn.oneR [1, 1] [1, 2] (1 : Int) (9 : Int) (10 : Int)).1).length : Int) == 1) && (((((Cn.oneR [1, 1] [1, 2] (1 : Int) (9 : Int) (10 : Int)).1).getD 0 []).length : Int) == 3)) && ((((Cn.oneR [1, 1] [1, 2] (1 : Int) (9 : Int) (10 : Int)).1).getD 0 []).contains (-9))) && ((((Cn.oneR [1, 1] [1, 2] (1 : Int) (9 : Int) (10 : Int)).1).getD 0 []).contains (1 : Int))) = true → (((((((Cn.oneR [1, 1] [1, 2] (1 : Int) (9 : Int) (10 : Int)).1).length : Int) == 1) && (((((Cn.oneR [1, 1] [1, 2] (1 : Int) (9 : Int) (10 : Int)).1).getD 0 []).length : Int) == 3)) && ((((Cn.oneR [1, 1] [1, 2] (1 : Int) (9 : Int) (10 : Int)).1).getD 0 []).contains (-9))) && ((((Cn.oneR [1, 1] [1, 2] (1 : Int) (9 : Int) (10 : Int)).1).getD 0 []).contains (1 : Int))) = true), (((((((((Cn.oneR [1, 1] [1, 2] (1 : Int) (9 : Int) (10 : Int)).1).length : Int) == 1) && (((((Cn.oneR [1, 1] [1, 2] (1 : Int) (9 : Int) (10 : Int)).1).getD 0 []).length : Int) == 3)) && ((((Cn.oneR [1, 1] [1, 2] (1 : Int) (9 : Int) (10 : Int)).1).getD 0 []).contains (-9))) && ((((Cn.oneR [1, 1] [1, 2] (1 : Int) (9 : Int) (10 : Int)).1).getD 0 []).contains (1 : Int))) && ((((Cn.oneR [1, 1] [1, 2] (1 : Int) (9 : Int) (10 : Int)).1).getD 0 []).contains (2 : Int))) = true → (((((((((Cn.oneR [1, 1] [1, 2] (1 : Int) (9 : Int) (10 : Int)).1).length : Int) == 1) && (((((Cn.oneR [1, 1] [1, 2] (1 : Int) (9 : Int) (10 : Int)).1).getD 0 []).length : Int) == 3)) && ((((Cn.oneR [1, 1] [1, 2] (1 : Int) (9 : Int) (10 : Int)).1).getD 0 []).contains (-9))) && ((((Cn.oneR [1, 1] [1, 2] (1 : Int) (9 : Int) (10 : Int)).1).getD 0 []).contains (1 : Int))) && ((((Cn.oneR [1, 1] [1, 2] (1 : Int) (9 : Int) (10 : Int)).1).getD 0 []).contains (2 : Int))) = true)), (((((((((Cn.oneR [1, 1] [1, 2] (1 : Int) (9 : Int) (10 : Int)).1).length : Int) == 1) && (((((Cn.oneR [1, 1] [1, 2] (1 : Int) (9 : Int) (10 : Int)).1).getD 0 []).length : Int) == 3)) && ((((Cn.oneR [1, 1] [1, 2] (1 : Int) (9 : Int) (10 : Int)).1).getD 0 []).contains (-9))) && ((((Cn.oneR [1, 1] [1, 2] (1 : Int) (9 : Int) (10 : Int)).1).getD 0 []).contains (1 : Int))) && ((((Cn.oneR [1, 1] [1, 2] (1 : Int) (9 : Int) (10 : Int)).1).getD 0 []).contains (2 : Int))) = true → ((((((((Cn.oneR [1, 1] [1, 2] (1 : Int) (9 : Int) (10 : Int)).1).length : Int) == 1) && (((((Cn.oneR [1, 1] [1, 2] (1 : Int) (9 : Int) (10 : Int)).1).getD 0 []).length : Int) == 3)) && ((((Cn.oneR [1, 1] [1, 2] (1 : Int) (9 : Int) (10 : Int)).1).getD 0 []).contains (-9))) && ((((Cn.oneR [1, 1] [1, 2] (1 : Int) (9 : Int) (10 : Int)).1).getD 0 []).contains (1 : Int))) && ((((Cn.oneR [1, 1] [1, 2] (1 : Int) (9 : Int) (10 : Int)).1).getD 0 []).contains (2 : Int))) = true), ((((((((((Cn.oneR [1, 1] [1, 2] (1 : Int) (9 : Int) (10 : Int)).1).length : Int) == 1) && (((((Cn.oneR [1, 1] [1, 2] (1 : Int) (9 : Int) (10 : Int)).1).getD 0 []).length : Int) == 3)) && ((((Cn.oneR [1, 1] [1, 2] (1 : Int) (9 : Int) (10 : Int)).1).getD 0 []).contains (-9))) && ((((Cn.oneR [1, 1] [1, 2] (1 : Int) (9 : Int) (10 : Int)).1).getD 0 []).contains (1 : Int))) && ((((Cn.oneR [1, 1] [1, 2] (1 : Int) (9 : Int) (10 : Int)).1).getD 0 []).contains (2 : Int))) && (((Cn.oneR [1, 1] [1, 2] (1 : Int) (9 : Int) (10 : Int)).2.1) == 10)) = true → ((((((((((Cn.oneR [1, 1] [1, 2] (1 : Int) (9 : Int) (10 : Int)).1).length : Int) == 1) && (((((Cn.oneR [1, 1] [1, 2] (1 : Int) (9 : Int) (10 : Int)).1).getD 0 []).length : Int) == 3)) && ((((Cn.oneR [1, 1] [1, 2] (1 : Int) (9 : Int) (10 : Int)).1).getD 0 []).contains (-9))) && ((((Cn.oneR [1, 1] [1, 2] (1 : Int) (9 : Int) (10 : Int)).1).getD 0 []).contains (1 : Int))) && ((((Cn.oneR [1, 1] [1, 2] (1 : Int) (9 : Int) (10 : Int)).1).getD 0 []).contains (2 : Int))) && (((Cn.oneR [1, 1] [1, 2] (1 : Int) (9 : Int) (10 : Int)).2.1) == 10)) = true)), ((((((((((Cn.oneR [1, 1] [1, 2] (1 : Int) (9 : Int) (10 : Int)).1).length : Int) == 1) && (((((Cn.oneR [1, 1] [1, 2] (1 : Int) (9 : Int) (10 : Int)).1).getD 0 []).length : Int) == 3)) && ((((Cn.oneR [1, 1] [1, 2] (1 : Int) (9 : Int) (10 : Int)).1).getD 0 []).contains (-9))) && ((((Cn.oneR [1, 1] [1, 2] (1 : Int) (9 : Int) (10 : Int)).1).getD 0 []).contains (1 : Int))) && ((((Cn.oneR [1, 1] [1, 2] (1 : Int) (9 : Int) (10 : Int)).1).getD 0 []).contains (2 : Int))) && (((Cn.oneR [1, 1] [1, 2] (1 : Int) (9 : Int) (10 : Int)).2.1) == 10)) = true → (((((((((Cn.oneR [1, 1] [1, 2] (1 : Int) (9 : Int) (10 : Int)).1).length : Int) == 1) && (((((Cn.oneR [1, 1] [1, 2] (1 : Int) (9 : Int) (10 : Int)).1).getD 0 []).length : Int) == 3)) && ((((Cn.oneR [1, 1] [1, 2] (1 : Int) (9 : Int) (10 : Int)).1).getD 0 []).contains (-9))) && ((((Cn.oneR [1, 1] [1, 2] (1 : Int) (9 : Int) (10 : Int)).1).getD 0 []).contains (1 : Int))) && ((((Cn.oneR [1, 1] [1, 2] (1 : Int) (9 : Int) (10 : Int)).1).getD 0 []).contains (2 : Int))) && (((Cn.oneR [1, 1] [1, 2] (1 : Int) (9 : Int) (10 : Int)).2.1) == 10)) = true)] ?_ (Sq hcx [] [0] [22, 19, 21, 18, 13, 15, 8, 9, 6, 7, 4, 5] [] [((((Cn.howR [1, 1] [1, 2] (1 : Int)).1) == 1) = true → ((((Cn.howR [1, 1] [1, 2] (1 : Int)).1) == 1) = true)), ((((Cn.howR [1, 1] [1, 2] (1 : Int)).1) == 1) = true → (((Cn.howR [1, 1] [1, 2] (1 : Int)).1) == 1) = true), (lvC1 = true → (lvC1 = true)), (lvC1 = true → lvC1 = true), (lvC2 = true → (lvC2 = true)), (lvC2 = true → lvC2 = true), (lvC3 = true → (lvC3 = true)), (lvC3 = true → lvC3 = true), (lvC4 = true → (lvC4 = true)), (lvC4 = true → lvC4 = true), (lvC5 = true → lvC5 = true), (lvC6 = true → (lvC6 = true)), (lvC6 = true → (lvC6 = true)), (lvC6 = true → (lvC6 = true)), (lvC6 = true → (((Cn.oneR ([] : List (Int)) ([] : List (Int)) (1 : Int) (-4) (10 : Int)).1).length ≤ maxLen ∧ ∀ x ∈ ((Cn.oneR ([] : List (Int)) ([] : List (Int)) (1 : Int) (-4) (10 : Int)).1), x.length ≤ maxLen)), (lvC6 = true → lvC6 = true), (lvC7 = true → (lvC7 = true)), (lvC7 = true → lvC7 = true), (lvC8 = true → (lvC8 = true)), (lvC8 = true → lvC8 = true), (lvC9 = true → (lvC9 = true)), (lvC9 = true → (lvC9 = true)), (lvC9 = true → lvC9 = true), (lvC10 = true → (lvC10 = true)), (lvC10 = true → lvC10 = true)] ?_ (Zr (Rv hcx (congrArg AV.bool (show (lvC10 && (((Cn.allR [([], [], 0), ([1, 1], [1, 2], 1)] (3 : Int)).2.2) == 0)) = true from (by (simp only [lvC1, lvC2, lvC3, lvC4, lvC5, lvC6, lvC7, lvC8, lvC9, lvC10, h1, h2, h3, h4, h5, h6, h7]; decide)))) [] rfl))))))))))))))
  ·
   refine ap ?_ az
   first | exact True.intro | decide | exact (fun h => h) | exact (fun h => (Bool.and_eq_true_iff.1 h).1) | (simp only [lvC1, lvC2, lvC3, lvC4, lvC5, lvC6, lvC7, lvC8, lvC9, lvC10, h1, h2, h3, h4, h5, h6, h7]; decide) | (intro _; exact True.intro) | (intro _; decide) | (intro _; simp only [h1, h2, h3, h4, h5, h6, h7]; decide) | done
  ·
   refine ap ?_ az
   first | exact True.intro | decide | exact (fun h => h) | exact (fun h => (Bool.and_eq_true_iff.1 h).1) | (simp only [lvC1, lvC2, lvC3, lvC4, lvC5, lvC6, lvC7, lvC8, lvC9, lvC10, h1, h2, h3, h4, h5, h6, h7]; decide) | (intro _; exact True.intro) | (intro _; decide) | (intro _; simp only [h1, h2, h3, h4, h5, h6, h7]; decide) | done
  ·
   refine ap ?_ az
   first | exact True.intro | decide | exact (fun h => h) | exact (fun h => (Bool.and_eq_true_iff.1 h).1) | (simp only [lvC1, lvC2, lvC3, lvC4, lvC5, lvC6, lvC7, lvC8, lvC9, lvC10, h1, h2, h3, h4, h5, h6, h7]; decide) | (intro _; exact True.intro) | (intro _; decide) | (intro _; simp only [h1, h2, h3, h4, h5, h6, h7]; decide) | done
  ·
   refine ap ?_ az
   first | exact True.intro | decide | exact (fun h => h) | exact (fun h => (Bool.and_eq_true_iff.1 h).1) | (simp only [lvC1, lvC2, lvC3, lvC4, lvC5, lvC6, lvC7, lvC8, lvC9, lvC10, h1, h2, h3, h4, h5, h6, h7]; decide) | (intro _; exact True.intro) | (intro _; decide) | (intro _; simp only [h1, h2, h3, h4, h5, h6, h7]; decide) | done
  ·
   refine ap ?_ az
   first | exact True.intro | decide | exact (fun h => h) | exact (fun h => (Bool.and_eq_true_iff.1 h).1) | (simp only [lvC1, lvC2, lvC3, lvC4, lvC5, lvC6, lvC7, lvC8, lvC9, lvC10, h1, h2, h3, h4, h5, h6, h7]; decide) | (intro _; exact True.intro) | (intro _; decide) | (intro _; simp only [h1, h2, h3, h4, h5, h6, h7]; decide) | done
  ·
   refine ap ?_ az
   first | exact True.intro | decide | exact (fun h => h) | exact (fun h => (Bool.and_eq_true_iff.1 h).1) | (simp only [lvC1, lvC2, lvC3, lvC4, lvC5, lvC6, lvC7, lvC8, lvC9, lvC10, h1, h2, h3, h4, h5, h6, h7]; decide) | (intro _; exact True.intro) | (intro _; decide) | (intro _; simp only [h1, h2, h3, h4, h5, h6, h7]; decide) | done
  ·
   refine ap ?_ az
   first | exact True.intro | decide | exact (fun h => h) | exact (fun h => (Bool.and_eq_true_iff.1 h).1) | (simp only [lvC1, lvC2, lvC3, lvC4, lvC5, lvC6, lvC7, lvC8, lvC9, lvC10, h1, h2, h3, h4, h5, h6, h7]; decide) | (intro _; exact True.intro) | (intro _; decide) | (intro _; simp only [h1, h2, h3, h4, h5, h6, h7]; decide) | done
  ·
   refine ap ?_ (ap ?_ (ap ?_ (ap ?_ (ap ?_ (ap (by exact id) (ap ?_ (ap ?_ (ap ?_ (ap ?_ (ap ?_ (ap (by exact id) (ap ?_ (ap ?_ (ap ?_ (ap ?_ (ap ?_ (ap (by exact id) (ap ?_ (ap ?_ (ap ?_ (ap ?_ (ap ?_ (ap (by exact id) (ap ?_ (ap (by exact id) (ap ?_ (ap (by exact id) az))))))))))))))))))))))))))) <;>
    first | exact True.intro | decide | exact (fun h => h) | exact (fun h => (Bool.and_eq_true_iff.1 h).1) | (simp only [lvC1, lvC2, lvC3, lvC4, lvC5, lvC6, lvC7, lvC8, lvC9, lvC10, h1, h2, h3, h4, h5, h6, h7]; decide) | (intro _; exact True.intro) | (intro _; decide) | (intro _; simp only [h1, h2, h3, h4, h5, h6, h7]; decide) | done
  ·
   refine ap ?_ (ap (by exact id) (ap ?_ (ap (by exact id) (ap ?_ (ap (by exact id) (ap ?_ (ap (by exact id) (ap ?_ (ap (by exact id) (ap (by exact id) (ap ?_ (ap ?_ (ap ?_ (ap ?_ (ap (by exact id) (ap ?_ (ap (by exact id) (ap ?_ (ap (by exact id) (ap ?_ (ap ?_ (ap (by exact id) (ap ?_ (ap (by exact id) az)))))))))))))))))))))))) <;>
    first | exact True.intro | decide | exact (fun h => h) | exact (fun h => (Bool.and_eq_true_iff.1 h).1) | (simp only [lvC1, lvC2, lvC3, lvC4, lvC5, lvC6, lvC7, lvC8, lvC9, lvC10, h1, h2, h3, h4, h5, h6, h7]; decide) | (intro _; exact True.intro) | (intro _; decide) | (intro _; simp only [h1, h2, h3, h4, h5, h6, h7]; decide) | done
 ·
  cases hσ
end Go.Proofs.YtkkapbnopmmmjaaDoor.En
namespace Go.Proofs.YtkkapbnopmmmjaaDoor.En
open Go Go.RowKit
attribute [local irreducible] Cn.howR Cn.oneR Cn.allR Cn.allSt
def tyEncodeConcatenates : List (Nat × TD) := [(3, ⟨1, false, [.int .i64 0], [], none, 8, false, 1, 1⟩),
  (22, ⟨1, false, [.slice none 0 0], [], some 26, 24, false, 0, 0⟩),
  (24, ⟨1, false, [.slice none 0 0], [], some 3, 24, false, 0, 3⟩),
  (26, ⟨3, true, [.slice none 0 0, .slice none 0 0, .int .i64 0], [(0, 24), (1, 24), (2, 3)], none, 56, false, 0, 5⟩),
  (27, ⟨1, false, [.slice none 0 0], [], some 24, 24, false, 0, 0⟩),
  (28, ⟨1, false, [.int .i64 0], [], none, 8, false, 1, 1⟩)]
theorem tyEncodeConcatenates_ok : AllTy Tryd.prog tyEncodeConcatenates := ⟨⟨by kernel_rfl, by kernel_rfl, by kernel_rfl⟩, ⟨by kernel_rfl, by kernel_rfl, by kernel_rfl⟩, ⟨by kernel_rfl, by kernel_rfl, by kernel_rfl⟩, ⟨by kernel_rfl, by kernel_rfl, by kernel_rfl⟩, ⟨by kernel_rfl, by kernel_rfl, by kernel_rfl⟩, ⟨by kernel_rfl, by kernel_rfl, by kernel_rfl⟩, trivial⟩
def cx_lEncodeConcatenates : Cx := ⟨tyEncodeConcatenates, [(7, (coeF [.agg [.ld (.ints []), .ld (.ints []), .id], .id, .id] eOne_σ)), (6, (coeF [.ld (.lins []), .id] eAll_σ)), (5, live18_σ), (8, (coeF [.ld (.intss []), .ld (.intss [])] rClauses15_σ))], true⟩
theorem cx_lEncodeConcatenates_ok : CxOk Tryd.prog cx_lEncodeConcatenates := cx_ok tyEncodeConcatenates_ok ⟨(eOne_sound.coe [.agg [.ld (.ints []), .ld (.ints []), .id], .id, .id] rfl), (eAll_sound.coe [.ld (.lins []), .id] rfl), live18_sound, (rClauses15_sound.coe [.ld (.intss []), .ld (.intss [])] rfl), trivial⟩
def lEncodeConcatenates_σ : CtF
  | [.im (.ls (.lins l)), .im (.val (.int .i64 next))], [] => some (l.length ≤ maxLen ∧ Fit next, .bool true, [])
  | _, _ => none
theorem lEncodeConcatenates_sound : Sound Tryd.prog 3 lEncodeConcatenates_σ := by
 refine Sw (cx := cx_lEncodeConcatenates) Tryd.f3 Tryd.func3 ?_
 intro wW wO wβ G0 args os p r outs hσ hp
 have hcx := cx_lEncodeConcatenates_ok
 unfold lEncodeConcatenates_σ at hσ
 split at hσ
 ·
  rename_i l next
  cases hσ
  refine ⟨by kernel_rfl, ?_⟩
  obtain ⟨hl, hn⟩ := hp
  have hl9 := hl
  unfold maxLen at hl9
  refine Sz hcx [] [] [] [] (Zs (Sq hcx [] [16] [] [] [(True)] ?_ (Zi (b := !true) (fun h0 => ?_) fun h0 => ?_)))
  ·
   refine ap ?_ az
   first | omega | exact id | exact vcNot | exact vcG | exact vcH | (intro _; omega) | exact (fun _ h => h) | (intro h; simp at h; omega) | (simp only [List.length_cons, List.length_nil, List.length_append, List.length_map, List.length_set, List.length_replicate]; omega) | (intro h; simp [h]; done) | exact True.intro | exact id | exact (fun _ h => h) | exact ⟨by omega, hn⟩ | exact ⟨by decide, hsb.2⟩ | exact (fun _ => Cn.cc_bd har (by omega) _ _) | (intro _; have q := hpt.1; unfold Cn.allD at q; omega) | (constructor <;> omega) | (intro _; constructor <;> omega) | (intro _; omega) | done
  ·
   cases h0
  ·
   replace h0 := (notB_f h0)
   refine Zk (Ft (Zs (Sz hcx [] [19] [16] [] (Zj (p := ((l.length : Int) > 6)) (fun h1 => ?_) fun h1 => ?_))))
   ·
    exact Sz hcx [] [4] [19, 0, 1] [] (Zr (Fr (Ru hcx [])))
   ·
    refine Zk (Ft (Zs (Sz hcx [] [5] [19] [] (Zb (Lp (X := Nat) (fun x0 => x0 ≤ l.length) (fun x0 => ([(0, .lins l), (1, .int next), (5, .int (x0 : Int))], [])) (fun x0 => l.length - x0) (0) ?_ (Ex 5 (congrArg AV.int (show 0 = (0 : Int) from (by first | rfl | omega | (simp; done)))) Eb) Hb fun i hI => ?_)))))
    ·
     show 0 ≤ l.length
     omega
    ·
     replace hI : i ≤ l.length := hI
     refine Zs (Sz hcx [] [23] [] [] (Zj (p := ((i : Int) < (l.length : Int))) (fun h2 => ?_) fun h2 => ?_))
     ·
      refine Zk (Ft (Zs (Zb (Sq hcx [] [41] [23] [] [((0 : Int) ≤ (i : Int) ∧ (i : Int) < (l.length : Int)), ((!(decide ((((l.getD i ([], [], 0)).1).length : Int) > 15))) = true → ((!(decide ((((l.getD i ([], [], 0)).1).length : Int) > 15))) = true)), ((!(decide ((((l.getD i ([], [], 0)).1).length : Int) > 15))) = true → ((!(decide ((((l.getD i ([], [], 0)).1).length : Int) > 15))) = true)), ((!(decide ((((l.getD i ([], [], 0)).1).length : Int) > 15))) = true → ((0 : Int) ≤ (i : Int) ∧ (i : Int) < (l.length : Int))), ((!(decide ((((l.getD i ([], [], 0)).1).length : Int) > 15))) = true → ((!(decide ((((l.getD i ([], [], 0)).1).length : Int) > 15))) = true)), ((!(decide ((((l.getD i ([], [], 0)).1).length : Int) > 15))) = true → ((!(decide ((((l.getD i ([], [], 0)).1).length : Int) > 15))) = true)), ((!(decide ((((l.getD i ([], [], 0)).1).length : Int) > 15))) = true → ((!(decide ((((l.getD i ([], [], 0)).1).length : Int) > 15))) = true)), ((!(decide ((((l.getD i ([], [], 0)).1).length : Int) > 15))) = true → ((!(decide ((((l.getD i ([], [], 0)).1).length : Int) > 15))) = true)), ((decide ((((l.getD i ([], [], 0)).1).length : Int) > 15)) = false → (!(decide ((((l.getD i ([], [], 0)).1).length : Int) > 15))) = true)] ?_ (Zi (b := (decide ((((l.getD i ([], [], 0)).1).length : Int) > 15)) || (decide ((((l.getD i ([], [], 0)).2.1).length : Int) > 15))) (fun h3 => ?_) fun h3 => ?_)))))
      ·
       refine ap ?_ (ap ?_ (ap ?_ (ap ?_ (ap ?_ (ap ?_ (ap ?_ (ap ?_ (ap (by exact vcNot) az)))))))) <;>
        first | omega | exact id | exact vcNot | exact vcG | exact vcH | (intro _; omega) | exact (fun _ h => h) | (intro h; simp at h; omega) | (simp only [List.length_cons, List.length_nil, List.length_append, List.length_map, List.length_set, List.length_replicate]; omega) | (intro h; simp [h]; done) | exact True.intro | exact id | exact (fun _ h => h) | exact ⟨by omega, hn⟩ | exact ⟨by decide, hsb.2⟩ | exact (fun _ => Cn.cc_bd har (by omega) _ _) | (intro _; have q := hpt.1; unfold Cn.allD at q; omega) | (constructor <;> omega) | (intro _; constructor <;> omega) | (intro _; omega) | done
      ·
       skip
       exact Sz hcx [] [4] [41, 0, 1, 5] [] (Zr (Fk (Fr (Fr (Fk (Fr (Ru hcx [])))))))
      ·
       skip
       refine Zk (Fb (Ft (Tq hcx [] [5] [41] [] [Fit ((i : Int) + 1)] ?_ (Lr (i + 1) ?_ ?_ (Ex 5 (congrArg AV.int (show ((i : Int) + 1) = ((i + 1) : Int) from (by first | rfl | omega | (simp; done)))) Eb) Hb))))
       ·
        refine ap ?_ az
        first | omega | exact id | exact vcNot | exact vcG | exact vcH | (intro _; omega) | exact (fun _ h => h) | (intro h; simp at h; omega) | (simp only [List.length_cons, List.length_nil, List.length_append, List.length_map, List.length_set, List.length_replicate]; omega) | (intro h; simp [h]; done) | exact True.intro | exact id | exact (fun _ h => h) | exact ⟨by omega, hn⟩ | exact ⟨by decide, hsb.2⟩ | exact (fun _ => Cn.cc_bd har (by omega) _ _) | (intro _; have q := hpt.1; unfold Cn.allD at q; omega) | (constructor <;> omega) | (intro _; constructor <;> omega) | (intro _; omega) | done
       ·
        show (i + 1) ≤ l.length
        omega
       ·
        show l.length - (i + 1) < l.length - i
        omega
     ·
      refine Ze (Fe (Fe (Fs (Ft (Sq hcx [] [6, 7, 8] [23, 5] [] [(l.length ≤ 100 ∧ Fit next)] ?_ (Sz hcx [] [9] [] [] (Sz hcx [] [10] [] [] (Zs (Sz hcx [] [11] [] [] (Zb (Lp (X := Nat) (fun x0 => x0 ≤ l.length ∧ ∀ j, j < x0 → Cn.allE l next j = 0) (fun x0 => ([(0, .lins l), (1, .int ((Cn.allSt l next x0).2)), (6, .intss ((Cn.allR l next).1)), (7, .int ((Cn.allR l next).2.1)), (8, .int ((Cn.allR l next).2.2)), (9, .int ((Cn.allSt l next x0).1.length : Int)), (10, .int next), (11, .int (x0 : Int))], [])) (fun x0 => l.length - x0) (0) ?_ (Ex 11 (congrArg AV.int (show 0 = (0 : Int) from (by first | rfl | omega | (simp; done)))) Eb) Hb fun i hI => ?_)))))))))))
      ·
       refine ap ?_ az
       first | omega | exact id | exact vcNot | exact vcG | exact vcH | (intro _; omega) | exact (fun _ h => h) | (intro h; simp at h; omega) | (simp only [List.length_cons, List.length_nil, List.length_append, List.length_map, List.length_set, List.length_replicate]; omega) | (intro h; simp [h]; done) | exact True.intro | exact id | exact (fun _ h => h) | exact ⟨by omega, hn⟩ | exact ⟨by decide, hsb.2⟩ | exact (fun _ => Cn.cc_bd har (by omega) _ _) | (intro _; have q := hpt.1; unfold Cn.allD at q; omega) | (constructor <;> omega) | (intro _; constructor <;> omega) | (intro _; omega) | done
      ·
       exact ⟨Nat.zero_le _, fun j hj => by omega⟩
      ·
       try dsimp only at hI
       obtain ⟨hk, hz⟩ := hI
       have hsb := Cn.allSt_bd (l := l) hn i
       have har := Cn.allR_len (l := l) (next := next)
       have hob := Cn.one_bd (l.getD i ([], [], 0)).1 (l.getD i ([], [], 0)).2.1 (l.getD i ([], [], 0)).2.2 0 (Cn.allSt l next i).2
       refine Zs (Sz hcx [] [53] [] [] (Zj (p := ((i : Int) < (l.length : Int))) (fun h4 => ?_) fun h4 => ?_))
       ·
        have hi9 : i < l.length := by have := h4; omega
        refine Zk (Ft (Zs (Zb (Sq hcx [] [12, 13, 14] [53, 1] [] [((0 : Int) ≤ (i : Int) ∧ (i : Int) < (l.length : Int)), (Fit (0 : Int) ∧ Fit ((Cn.allSt l next i).2))] ?_ (Zs (Sz hcx [] [67] [] [] (Zx (a := ((Cn.oneR ((l.getD i ([], [], 0)).1) ((l.getD i ([], [], 0)).2.1) ((l.getD i ([], [], 0)).2.2) (0 : Int) ((Cn.allSt l next i).2)).2.2)) (b := 0) (fun h5 => ?_) fun h5 => ?_)))))))
        ·
         refine ap ?_ (ap ?_ az) <;>
          first | omega | exact id | exact vcNot | exact vcG | exact vcH | (intro _; omega) | exact (fun _ h => h) | (intro h; simp at h; omega) | (simp only [List.length_cons, List.length_nil, List.length_append, List.length_map, List.length_set, List.length_replicate]; omega) | (intro h; simp [h]; done) | exact True.intro | exact id | exact (fun _ h => h) | exact ⟨by omega, hn⟩ | exact ⟨by decide, hsb.2⟩ | exact (fun _ => Cn.cc_bd har (by omega) _ _) | (intro _; have q := hpt.1; unfold Cn.allD at q; omega) | (constructor <;> omega) | (intro _; constructor <;> omega) | (intro _; omega) | done
        ·
         have hr := Cn.cc_err hi9 hz h5
         refine Sq hcx [] [4] [67, 12, 13, 14, 0, 6, 7, 8, 9, 10, 11] [] [((((Cn.allR l next).2.2) == ((Cn.oneR ((l.getD i ([], [], 0)).1) ((l.getD i ([], [], 0)).2.1) ((l.getD i ([], [], 0)).2.2) (0 : Int) ((Cn.allSt l next i).2)).2.2)) = true → ((((Cn.allR l next).2.2) == ((Cn.oneR ((l.getD i ([], [], 0)).1) ((l.getD i ([], [], 0)).2.1) ((l.getD i ([], [], 0)).2.2) (0 : Int) ((Cn.allSt l next i).2)).2.2)) = true)), ((((Cn.allR l next).2.2) == ((Cn.oneR ((l.getD i ([], [], 0)).1) ((l.getD i ([], [], 0)).2.1) ((l.getD i ([], [], 0)).2.2) (0 : Int) ((Cn.allSt l next i).2)).2.2)) = true → ((((Cn.allR l next).2.2) == ((Cn.oneR ((l.getD i ([], [], 0)).1) ((l.getD i ([], [], 0)).2.1) ((l.getD i ([], [], 0)).2.2) (0 : Int) ((Cn.allSt l next i).2)).2.2)) = true)), ((((Cn.allR l next).2.2) == ((Cn.oneR ((l.getD i ([], [], 0)).1) ((l.getD i ([], [], 0)).2.1) ((l.getD i ([], [], 0)).2.2) (0 : Int) ((Cn.allSt l next i).2)).2.2)) = true → (((Cn.allR l next).2.2) == ((Cn.oneR ((l.getD i ([], [], 0)).1) ((l.getD i ([], [], 0)).2.1) ((l.getD i ([], [], 0)).2.2) (0 : Int) ((Cn.allSt l next i).2)).2.2)) = true), (((((Cn.allR l next).2.2) == ((Cn.oneR ((l.getD i ([], [], 0)).1) ((l.getD i ([], [], 0)).2.1) ((l.getD i ([], [], 0)).2.2) (0 : Int) ((Cn.allSt l next i).2)).2.2)) && ((((Cn.allR l next).1).length : Int) == 0)) = true → (((((Cn.allR l next).2.2) == ((Cn.oneR ((l.getD i ([], [], 0)).1) ((l.getD i ([], [], 0)).2.1) ((l.getD i ([], [], 0)).2.2) (0 : Int) ((Cn.allSt l next i).2)).2.2)) && ((((Cn.allR l next).1).length : Int) == 0)) = true)), (((((Cn.allR l next).2.2) == ((Cn.oneR ((l.getD i ([], [], 0)).1) ((l.getD i ([], [], 0)).2.1) ((l.getD i ([], [], 0)).2.2) (0 : Int) ((Cn.allSt l next i).2)).2.2)) && ((((Cn.allR l next).1).length : Int) == 0)) = true → ((((Cn.allR l next).2.2) == ((Cn.oneR ((l.getD i ([], [], 0)).1) ((l.getD i ([], [], 0)).2.1) ((l.getD i ([], [], 0)).2.2) (0 : Int) ((Cn.allSt l next i).2)).2.2)) && ((((Cn.allR l next).1).length : Int) == 0)) = true)] ?_ (Zr (Fr (Fk (Fr (Fr (Fk (Fr (Rv hcx (congrArg AV.bool (show (((((Cn.allR l next).2.2) == ((Cn.oneR ((l.getD i ([], [], 0)).1) ((l.getD i ([], [], 0)).2.1) ((l.getD i ([], [], 0)).2.2) (0 : Int) ((Cn.allSt l next i).2)).2.2)) && ((((Cn.allR l next).1).length : Int) == 0)) && (((Cn.allR l next).2.1) == 0)) = true from (by first | rfl | exact Cn.cc_r1 hr | exact Cn.cc_r2 hr | (rw [hr]; rfl) | done))) [] rfl))))))))
         ·
          refine ap ?_ (ap ?_ (ap (by exact id) (ap ?_ (ap (by exact id) az)))) <;>
           first | omega | exact id | exact vcNot | exact vcG | exact vcH | (intro _; omega) | exact (fun _ h => h) | (intro h; simp at h; omega) | (simp only [List.length_cons, List.length_nil, List.length_append, List.length_map, List.length_set, List.length_replicate]; omega) | (intro h; simp [h]; done) | exact True.intro | exact id | exact (fun _ h => h) | exact ⟨by omega, hn⟩ | exact ⟨by decide, hsb.2⟩ | exact (fun _ => Cn.cc_bd har (by omega) _ _) | (intro _; have q := hpt.1; unfold Cn.allD at q; omega) | (constructor <;> omega) | (intro _; constructor <;> omega) | (intro _; omega) | done
        ·
         have h67_ : Cn.allE l next i = 0 := by first | exact h5 | exact Decidable.not_not.1 h5
         refine Zk (Ft (Zs (Sz hcx [] [81] [67, 14] [] (Zu (a := ((Cn.allR l next).2.2)) (b := 0) (fun h6 => ?_) fun h6 => ?_))))
         ·
          have hpt := Cn.cc_part (i := i) h6 hi9
          refine Sq hcx [] [100] [81] [] [Fit (((Cn.allSt l next i).1.length : Int) + (((Cn.oneR ((l.getD i ([], [], 0)).1) ((l.getD i ([], [], 0)).2.1) ((l.getD i ([], [], 0)).2.2) (0 : Int) ((Cn.allSt l next i).2)).1).length : Int)), ((!(decide ((((Cn.allSt l next i).1.length : Int) + (((Cn.oneR ((l.getD i ([], [], 0)).1) ((l.getD i ([], [], 0)).2.1) ((l.getD i ([], [], 0)).2.2) (0 : Int) ((Cn.allSt l next i).2)).1).length : Int)) > (((Cn.allR l next).1).length : Int)))) = true → ((!(decide ((((Cn.allSt l next i).1.length : Int) + (((Cn.oneR ((l.getD i ([], [], 0)).1) ((l.getD i ([], [], 0)).2.1) ((l.getD i ([], [], 0)).2.2) (0 : Int) ((Cn.allSt l next i).2)).1).length : Int)) > (((Cn.allR l next).1).length : Int)))) = true)), ((!(decide ((((Cn.allSt l next i).1.length : Int) + (((Cn.oneR ((l.getD i ([], [], 0)).1) ((l.getD i ([], [], 0)).2.1) ((l.getD i ([], [], 0)).2.2) (0 : Int) ((Cn.allSt l next i).2)).1).length : Int)) > (((Cn.allR l next).1).length : Int)))) = true → ((!(decide ((((Cn.allSt l next i).1.length : Int) + (((Cn.oneR ((l.getD i ([], [], 0)).1) ((l.getD i ([], [], 0)).2.1) ((l.getD i ([], [], 0)).2.2) (0 : Int) ((Cn.allSt l next i).2)).1).length : Int)) > (((Cn.allR l next).1).length : Int)))) = true)), ((!(decide ((((Cn.allSt l next i).1.length : Int) + (((Cn.oneR ((l.getD i ([], [], 0)).1) ((l.getD i ([], [], 0)).2.1) ((l.getD i ([], [], 0)).2.2) (0 : Int) ((Cn.allSt l next i).2)).1).length : Int)) > (((Cn.allR l next).1).length : Int)))) = true → ((!(decide ((((Cn.allSt l next i).1.length : Int) + (((Cn.oneR ((l.getD i ([], [], 0)).1) ((l.getD i ([], [], 0)).2.1) ((l.getD i ([], [], 0)).2.2) (0 : Int) ((Cn.allSt l next i).2)).1).length : Int)) > (((Cn.allR l next).1).length : Int)))) = true)), ((!(decide ((((Cn.allSt l next i).1.length : Int) + (((Cn.oneR ((l.getD i ([], [], 0)).1) ((l.getD i ([], [], 0)).2.1) ((l.getD i ([], [], 0)).2.2) (0 : Int) ((Cn.allSt l next i).2)).1).length : Int)) > (((Cn.allR l next).1).length : Int)))) = true → Fit (((Cn.allSt l next i).1.length : Int) + (((Cn.oneR ((l.getD i ([], [], 0)).1) ((l.getD i ([], [], 0)).2.1) ((l.getD i ([], [], 0)).2.2) (0 : Int) ((Cn.allSt l next i).2)).1).length : Int))), ((!(decide ((((Cn.allSt l next i).1.length : Int) + (((Cn.oneR ((l.getD i ([], [], 0)).1) ((l.getD i ([], [], 0)).2.1) ((l.getD i ([], [], 0)).2.2) (0 : Int) ((Cn.allSt l next i).2)).1).length : Int)) > (((Cn.allR l next).1).length : Int)))) = true → ((!(decide ((((Cn.allSt l next i).1.length : Int) + (((Cn.oneR ((l.getD i ([], [], 0)).1) ((l.getD i ([], [], 0)).2.1) ((l.getD i ([], [], 0)).2.2) (0 : Int) ((Cn.allSt l next i).2)).1).length : Int)) > (((Cn.allR l next).1).length : Int)))) = true)), ((!(decide ((((Cn.allSt l next i).1.length : Int) + (((Cn.oneR ((l.getD i ([], [], 0)).1) ((l.getD i ([], [], 0)).2.1) ((l.getD i ([], [], 0)).2.2) (0 : Int) ((Cn.allSt l next i).2)).1).length : Int)) > (((Cn.allR l next).1).length : Int)))) = true → ((!(decide ((((Cn.allSt l next i).1.length : Int) + (((Cn.oneR ((l.getD i ([], [], 0)).1) ((l.getD i ([], [], 0)).2.1) ((l.getD i ([], [], 0)).2.2) (0 : Int) ((Cn.allSt l next i).2)).1).length : Int)) > (((Cn.allR l next).1).length : Int)))) = true)), ((!(decide ((((Cn.allSt l next i).1.length : Int) + (((Cn.oneR ((l.getD i ([], [], 0)).1) ((l.getD i ([], [], 0)).2.1) ((l.getD i ([], [], 0)).2.2) (0 : Int) ((Cn.allSt l next i).2)).1).length : Int)) > (((Cn.allR l next).1).length : Int)))) = true → ((!(decide ((((Cn.allSt l next i).1.length : Int) + (((Cn.oneR ((l.getD i ([], [], 0)).1) ((l.getD i ([], [], 0)).2.1) ((l.getD i ([], [], 0)).2.2) (0 : Int) ((Cn.allSt l next i).2)).1).length : Int)) > (((Cn.allR l next).1).length : Int)))) = true)), ((!(decide ((((Cn.allSt l next i).1.length : Int) + (((Cn.oneR ((l.getD i ([], [], 0)).1) ((l.getD i ([], [], 0)).2.1) ((l.getD i ([], [], 0)).2.2) (0 : Int) ((Cn.allSt l next i).2)).1).length : Int)) > (((Cn.allR l next).1).length : Int)))) = true → ((0 : Int) ≤ ((Cn.allSt l next i).1.length : Int) ∧ ((Cn.allSt l next i).1.length : Int) ≤ (((Cn.allSt l next i).1.length : Int) + (((Cn.oneR ((l.getD i ([], [], 0)).1) ((l.getD i ([], [], 0)).2.1) ((l.getD i ([], [], 0)).2.2) (0 : Int) ((Cn.allSt l next i).2)).1).length : Int)) ∧ (((Cn.allSt l next i).1.length : Int) + (((Cn.oneR ((l.getD i ([], [], 0)).1) ((l.getD i ([], [], 0)).2.1) ((l.getD i ([], [], 0)).2.2) (0 : Int) ((Cn.allSt l next i).2)).1).length : Int)) ≤ (((Cn.allR l next).1).length : Int))), ((!(decide ((((Cn.allSt l next i).1.length : Int) + (((Cn.oneR ((l.getD i ([], [], 0)).1) ((l.getD i ([], [], 0)).2.1) ((l.getD i ([], [], 0)).2.2) (0 : Int) ((Cn.allSt l next i).2)).1).length : Int)) > (((Cn.allR l next).1).length : Int)))) = true → ((!(decide ((((Cn.allSt l next i).1.length : Int) + (((Cn.oneR ((l.getD i ([], [], 0)).1) ((l.getD i ([], [], 0)).2.1) ((l.getD i ([], [], 0)).2.2) (0 : Int) ((Cn.allSt l next i).2)).1).length : Int)) > (((Cn.allR l next).1).length : Int)))) = true)), ((!(decide ((((Cn.allSt l next i).1.length : Int) + (((Cn.oneR ((l.getD i ([], [], 0)).1) ((l.getD i ([], [], 0)).2.1) ((l.getD i ([], [], 0)).2.2) (0 : Int) ((Cn.allSt l next i).2)).1).length : Int)) > (((Cn.allR l next).1).length : Int)))) = true → ((!(decide ((((Cn.allSt l next i).1.length : Int) + (((Cn.oneR ((l.getD i ([], [], 0)).1) ((l.getD i ([], [], 0)).2.1) ((l.getD i ([], [], 0)).2.2) (0 : Int) ((Cn.allSt l next i).2)).1).length : Int)) > (((Cn.allR l next).1).length : Int)))) = true)), ((!(decide ((((Cn.allSt l next i).1.length : Int) + (((Cn.oneR ((l.getD i ([], [], 0)).1) ((l.getD i ([], [], 0)).2.1) ((l.getD i ([], [], 0)).2.2) (0 : Int) ((Cn.allSt l next i).2)).1).length : Int)) > (((Cn.allR l next).1).length : Int)))) = true → (((((Cn.allR l next).1).take (((Cn.allSt l next i).1.length) + (((Cn.oneR ((l.getD i ([], [], 0)).1) ((l.getD i ([], [], 0)).2.1) ((l.getD i ([], [], 0)).2.2) (0 : Int) ((Cn.allSt l next i).2)).1).length))).drop ((Cn.allSt l next i).1.length)).length ≤ maxLen ∧ ∀ x ∈ ((((Cn.allR l next).1).take (((Cn.allSt l next i).1.length) + (((Cn.oneR ((l.getD i ([], [], 0)).1) ((l.getD i ([], [], 0)).2.1) ((l.getD i ([], [], 0)).2.2) (0 : Int) ((Cn.allSt l next i).2)).1).length))).drop ((Cn.allSt l next i).1.length)), x.length ≤ maxLen)), ((!(decide ((((Cn.allSt l next i).1.length : Int) + (((Cn.oneR ((l.getD i ([], [], 0)).1) ((l.getD i ([], [], 0)).2.1) ((l.getD i ([], [], 0)).2.2) (0 : Int) ((Cn.allSt l next i).2)).1).length : Int)) > (((Cn.allR l next).1).length : Int)))) = true → ((!(decide ((((Cn.allSt l next i).1.length : Int) + (((Cn.oneR ((l.getD i ([], [], 0)).1) ((l.getD i ([], [], 0)).2.1) ((l.getD i ([], [], 0)).2.2) (0 : Int) ((Cn.allSt l next i).2)).1).length : Int)) > (((Cn.allR l next).1).length : Int)))) = true)), ((decide ((((Cn.allSt l next i).1.length : Int) + (((Cn.oneR ((l.getD i ([], [], 0)).1) ((l.getD i ([], [], 0)).2.1) ((l.getD i ([], [], 0)).2.2) (0 : Int) ((Cn.allSt l next i).2)).1).length : Int)) > (((Cn.allR l next).1).length : Int))) = false → (!(decide ((((Cn.allSt l next i).1.length : Int) + (((Cn.oneR ((l.getD i ([], [], 0)).1) ((l.getD i ([], [], 0)).2.1) ((l.getD i ([], [], 0)).2.2) (0 : Int) ((Cn.allSt l next i).2)).1).length : Int)) > (((Cn.allR l next).1).length : Int)))) = true)] ?_ (Zi (b := (decide ((((Cn.allSt l next i).1.length : Int) + (((Cn.oneR ((l.getD i ([], [], 0)).1) ((l.getD i ([], [], 0)).2.1) ((l.getD i ([], [], 0)).2.2) (0 : Int) ((Cn.allSt l next i).2)).1).length : Int)) > (((Cn.allR l next).1).length : Int))) || (!(decide (((((Cn.allR l next).1).take (((Cn.allSt l next i).1.length) + (((Cn.oneR ((l.getD i ([], [], 0)).1) ((l.getD i ([], [], 0)).2.1) ((l.getD i ([], [], 0)).2.2) (0 : Int) ((Cn.allSt l next i).2)).1).length))).drop ((Cn.allSt l next i).1.length)) = ((Cn.oneR ((l.getD i ([], [], 0)).1) ((l.getD i ([], [], 0)).2.1) ((l.getD i ([], [], 0)).2.2) (0 : Int) ((Cn.allSt l next i).2)).1))))) (fun h7 => ?_) fun h7 => ?_)
          ·
           refine ap ?_ (ap ?_ (ap ?_ (ap ?_ (ap ?_ (ap ?_ (ap ?_ (ap ?_ (ap ?_ (ap ?_ (ap ?_ (ap ?_ (ap ?_ (ap (by exact vcNot) az))))))))))))) <;>
            first | omega | exact id | exact vcNot | exact vcG | exact vcH | (intro _; omega) | exact (fun _ h => h) | (intro h; simp at h; omega) | (simp only [List.length_cons, List.length_nil, List.length_append, List.length_map, List.length_set, List.length_replicate]; omega) | (intro h; simp [h]; done) | exact True.intro | exact id | exact (fun _ h => h) | exact ⟨by omega, hn⟩ | exact ⟨by decide, hsb.2⟩ | exact (fun _ => Cn.cc_bd har (by omega) _ _) | (intro _; have q := hpt.1; unfold Cn.allD at q; omega) | (constructor <;> omega) | (intro _; constructor <;> omega) | (intro _; omega) | done
          ·
           (exfalso; exact Cn.cc_dead hpt h7)
          ·
           skip
           refine Zk (Ft (Sq hcx [] [9] [100, 12] [] [Fit (((Cn.allSt l next i).1.length : Int) + (((Cn.oneR ((l.getD i ([], [], 0)).1) ((l.getD i ([], [], 0)).2.1) ((l.getD i ([], [], 0)).2.2) (0 : Int) ((Cn.allSt l next i).2)).1).length : Int))] ?_ (Tz hcx [] [1] [13] [] (Fb (Ft (Tq hcx [] [11] [] [] [Fit ((i : Int) + 1)] ?_ (Lr (i + 1) ?_ ?_ (Ex 9 (congrArg AV.int (show (((Cn.allSt l next i).1.length : Int) + (((Cn.oneR ((l.getD i ([], [], 0)).1) ((l.getD i ([], [], 0)).2.1) ((l.getD i ([], [], 0)).2.2) (0 : Int) ((Cn.allSt l next i).2)).1).length : Int)) = ((Cn.allSt l next (i + 1)).1.length : Int) from (by exact Cn.st_len))) (Ex 11 (congrArg AV.int (show ((i : Int) + 1) = ((i + 1) : Int) from (by first | rfl | omega | (simp; done)))) Eb)) Hb)))))))
           ·
            refine ap ?_ az
            first | omega | exact id | exact vcNot | exact vcG | exact vcH | (intro _; omega) | exact (fun _ h => h) | (intro h; simp at h; omega) | (simp only [List.length_cons, List.length_nil, List.length_append, List.length_map, List.length_set, List.length_replicate]; omega) | (intro h; simp [h]; done) | exact True.intro | exact id | exact (fun _ h => h) | exact ⟨by omega, hn⟩ | exact ⟨by decide, hsb.2⟩ | exact (fun _ => Cn.cc_bd har (by omega) _ _) | (intro _; have q := hpt.1; unfold Cn.allD at q; omega) | (constructor <;> omega) | (intro _; constructor <;> omega) | (intro _; omega) | done
           ·
            refine ap ?_ az
            first | omega | exact id | exact vcNot | exact vcG | exact vcH | (intro _; omega) | exact (fun _ h => h) | (intro h; simp at h; omega) | (simp only [List.length_cons, List.length_nil, List.length_append, List.length_map, List.length_set, List.length_replicate]; omega) | (intro h; simp [h]; done) | exact True.intro | exact id | exact (fun _ h => h) | exact ⟨by omega, hn⟩ | exact ⟨by decide, hsb.2⟩ | exact (fun _ => Cn.cc_bd har (by omega) _ _) | (intro _; have q := hpt.1; unfold Cn.allD at q; omega) | (constructor <;> omega) | (intro _; constructor <;> omega) | (intro _; omega) | done
           ·
            exact ⟨by omega, fun j hj => by rcases (by omega : j < i ∨ j = i) with h | rfl; exact hz j h; exact h67_⟩
           ·
            show l.length - (i + 1) < l.length - i
            omega
         ·
          have h81_ := h6
          refine Zk (Ft (Sq hcx [] [9] [81, 12] [] [Fit (((Cn.allSt l next i).1.length : Int) + (((Cn.oneR ((l.getD i ([], [], 0)).1) ((l.getD i ([], [], 0)).2.1) ((l.getD i ([], [], 0)).2.2) (0 : Int) ((Cn.allSt l next i).2)).1).length : Int))] ?_ (Tz hcx [] [1] [13] [] (Fb (Ft (Tq hcx [] [11] [] [] [Fit ((i : Int) + 1)] ?_ (Lr (i + 1) ?_ ?_ (Ex 9 (congrArg AV.int (show (((Cn.allSt l next i).1.length : Int) + (((Cn.oneR ((l.getD i ([], [], 0)).1) ((l.getD i ([], [], 0)).2.1) ((l.getD i ([], [], 0)).2.2) (0 : Int) ((Cn.allSt l next i).2)).1).length : Int)) = ((Cn.allSt l next (i + 1)).1.length : Int) from (by exact Cn.st_len))) (Ex 11 (congrArg AV.int (show ((i : Int) + 1) = ((i + 1) : Int) from (by first | rfl | omega | (simp; done)))) Eb)) Hb)))))))
          ·
           refine ap ?_ az
           first | omega | exact id | exact vcNot | exact vcG | exact vcH | (intro _; omega) | exact (fun _ h => h) | (intro h; simp at h; omega) | (simp only [List.length_cons, List.length_nil, List.length_append, List.length_map, List.length_set, List.length_replicate]; omega) | (intro h; simp [h]; done) | exact True.intro | exact id | exact (fun _ h => h) | exact ⟨by omega, hn⟩ | exact ⟨by decide, hsb.2⟩ | exact (fun _ => Cn.cc_bd har (by omega) _ _) | (intro _; have q := hpt.1; unfold Cn.allD at q; omega) | (constructor <;> omega) | (intro _; constructor <;> omega) | (intro _; omega) | done
          ·
           refine ap ?_ az
           first | omega | exact id | exact vcNot | exact vcG | exact vcH | (intro _; omega) | exact (fun _ h => h) | (intro h; simp at h; omega) | (simp only [List.length_cons, List.length_nil, List.length_append, List.length_map, List.length_set, List.length_replicate]; omega) | (intro h; simp [h]; done) | exact True.intro | exact id | exact (fun _ h => h) | exact ⟨by omega, hn⟩ | exact ⟨by decide, hsb.2⟩ | exact (fun _ => Cn.cc_bd har (by omega) _ _) | (intro _; have q := hpt.1; unfold Cn.allD at q; omega) | (constructor <;> omega) | (intro _; constructor <;> omega) | (intro _; omega) | done
          ·
           exact ⟨by omega, fun j hj => by rcases (by omega : j < i ∨ j = i) with h | rfl; exact hz j h; exact h67_⟩
          ·
           show l.length - (i + 1) < l.length - i
           omega
       ·
        have hi9 : i = l.length := by have := h4; omega
        refine Ze (Fe (Fe (Fs (Ft (Zs (Sq hcx [] [111] [53, 0, 10, 11] [] [((!(decide (next < 1))) = true → ((!(decide (next < 1))) = true)), ((decide (next < 1)) = false → (!(decide (next < 1))) = true)] ?_ (Zi (b := (decide (next < 1)) || (decide (next > 65537))) (fun h8 => ?_) fun h8 => ?_)))))))
        ·
         refine ap ?_ (ap (by exact vcNot) az)
         first | omega | exact id | exact vcNot | exact vcG | exact vcH | (intro _; omega) | exact (fun _ h => h) | (intro h; simp at h; omega) | (simp only [List.length_cons, List.length_nil, List.length_append, List.length_map, List.length_set, List.length_replicate]; omega) | (intro h; simp [h]; done) | exact True.intro | exact id | exact (fun _ h => h) | exact ⟨by omega, hn⟩ | exact ⟨by decide, hsb.2⟩ | exact (fun _ => Cn.cc_bd har (by omega) _ _) | (intro _; have q := hpt.1; unfold Cn.allD at q; omega) | (constructor <;> omega) | (intro _; constructor <;> omega) | (intro _; omega) | done
        ·
         have hr := Cn.all_bad (l := l) (Cn.on_b.1 h8)
         exact Sz hcx [] [4] [111, 1, 6, 7, 8, 9] [] (Zr (Fr (Rv hcx (congrArg AV.bool (show (((Cn.allR l next).2.2) == 1) = true from (by first | rfl | exact Cn.cc_r1 hr | exact Cn.cc_r2 hr | (rw [hr]; rfl) | done))) [] rfl)))
        ·
         have hr := Cn.cc_end (l := l) (Cn.on_bF h8) (hi9 ▸ hz)
         rw [← hi9] at hr
         refine Zk (Ft (Sq hcx [] [4] [111, 1, 6, 7, 8, 9] [] [((((Cn.allR l next).2.2) == 0) = true → ((((Cn.allR l next).2.2) == 0) = true)), ((((Cn.allR l next).2.2) == 0) = true → ((((Cn.allR l next).2.2) == 0) = true)), ((((Cn.allR l next).2.2) == 0) = true → ((((Cn.allR l next).2.2) == 0) = true)), ((((Cn.allR l next).2.2) == 0) = true → (((Cn.allR l next).2.2) == 0) = true), (((((Cn.allR l next).2.2) == 0) && (((Cn.allSt l next i).1.length : Int) == (((Cn.allR l next).1).length : Int))) = true → (((((Cn.allR l next).2.2) == 0) && (((Cn.allSt l next i).1.length : Int) == (((Cn.allR l next).1).length : Int))) = true)), (((((Cn.allR l next).2.2) == 0) && (((Cn.allSt l next i).1.length : Int) == (((Cn.allR l next).1).length : Int))) = true → (((((Cn.allR l next).2.2) == 0) && (((Cn.allSt l next i).1.length : Int) == (((Cn.allR l next).1).length : Int))) = true)), (((((Cn.allR l next).2.2) == 0) && (((Cn.allSt l next i).1.length : Int) == (((Cn.allR l next).1).length : Int))) = true → ((((Cn.allR l next).2.2) == 0) && (((Cn.allSt l next i).1.length : Int) == (((Cn.allR l next).1).length : Int))) = true)] ?_ (Zr (Rv hcx (congrArg AV.bool (show (((((Cn.allR l next).2.2) == 0) && (((Cn.allSt l next i).1.length : Int) == (((Cn.allR l next).1).length : Int))) && (((Cn.allR l next).2.1) == ((Cn.allSt l next i).2))) = true from (by first | rfl | exact Cn.cc_r1 hr | exact Cn.cc_r2 hr | (rw [hr]; rfl) | done))) [] rfl))))
         ·
          refine ap ?_ (ap ?_ (ap ?_ (ap (by exact id) (ap ?_ (ap ?_ (ap (by exact id) az)))))) <;>
           first | omega | exact id | exact vcNot | exact vcG | exact vcH | (intro _; omega) | exact (fun _ h => h) | (intro h; simp at h; omega) | (simp only [List.length_cons, List.length_nil, List.length_append, List.length_map, List.length_set, List.length_replicate]; omega) | (intro h; simp [h]; done) | exact True.intro | exact id | exact (fun _ h => h) | exact ⟨by omega, hn⟩ | exact ⟨by decide, hsb.2⟩ | exact (fun _ => Cn.cc_bd har (by omega) _ _) | (intro _; have q := hpt.1; unfold Cn.allD at q; omega) | (constructor <;> omega) | (intro _; constructor <;> omega) | (intro _; omega) | done
 ·
  cases hσ
end Go.Proofs.YtkkapbnopmmmjaaDoor.En
