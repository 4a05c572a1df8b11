/- Lemmas and contracts for the row. -/
import Derived.Test.YtkkapbnopmmmjaaDoorProg
import Derived.Test.YtkkapbnopmmmjaaDoorPkRowEncodeConcatenatesB
import Derived.Test.YtkkapbnopmmmjaaDoorPkRowEncodeConcatenatesA
import Derived.Deep.QuietTactic
import Derived.BigQuiet
import Derived.Lib.Hide
import Derived.Outline
import Derived.KernelRfl
import Derived.Laws.Bits64b
import Derived.Lib.TrailingZeros
import Derived.Shelf.Abstract
set_option linter.unusedVariables false
set_option linter.unusedSimpArgs false
set_option linter.unnecessarySimpa false
namespace Go.Proofs.YtkkapbnopmmmjaaDoor
open Go.RowKit
theorem Own.ty0 {w : World} {e : TypeId} {v : Value} {xs : List Value} (h : Own w e v xs) {g : Nat} (hg : v.ownBlock = some g) (he : e ≠ 5) : ∃ cur, w.heap[g]? = some (.cells cur e (0, 0)) := by
  obtain ⟨cur, hc⟩ := h.type hg
  exact ⟨cur, hc.plain he⟩
theorem info_int : (Tryd.prog.info? 3).map (fun i => (i.zero, i.size, i.bytes)) = some (some (.int .i64 0), 1, 8) := by kernel_rfl
theorem info_ints : (Tryd.prog.info? 24).map (fun i => (i.zero, i.size, i.bytes)) = some (some (.slice none 0 0), 1, 24) := by kernel_rfl
def T3 (E : Nat → Prop) (w : World) (b : Nat) : Prop := (∃ cur, w.heap[b]? = some (.cells cur 3 (0, 0))) ∧ E b
def Cl (E : Nat → Prop) (w : World) (v : Value) (xs : List Int) : Prop := ∃ A c, v = .slice A xs.length c ∧ xs.length ≤ c ∧ Rd I64 (T3 E w) w A xs
theorem T3.lt {E : Nat → Prop} {w : World} {b : Nat} (h : T3 E w b) : b < w.heap.size := by
  obtain ⟨⟨cur, h⟩, _⟩ := h
  exact (Array.getElem?_eq_some_iff.1 h).1
theorem T3.ne_blk {E : Nat → Prop} {w : World} {b g : Nat} {t : TypeId} {cs : Array Value} (h : T3 E w b) (hg : Blk w g t cs) (ht : t ≠ 3) : b ≠ g := by
  obtain ⟨⟨cur, h⟩, _⟩ := h
  exact Blk.ne_ (t := 3) h hg (Ne.symm ht)
theorem T3.ne_own {E : Nat → Prop} {w : World} {b : Nat} {e : TypeId} {v : Value} {xs : List Value} (h : T3 E w b) (hg : Own w e v xs) (ht : e ≠ 3) : v.ownBlock ≠ some b := by
  obtain ⟨⟨cur, h⟩, _⟩ := h
  exact hg.ne_blk (t := 3) h ht
theorem Cl.kp {E E' M : Nat → Prop} {w w' : World} {v : Value} {xs : List Int} (h : Cl E w v xs) (hk : Kp M w w') (hm : ∀ b, T3 E w b → ¬ M b) (hE : ∀ b, b < w.heap.size → E b → E' b) : Cl E' w' v xs := by
  obtain ⟨A, c, h1, h2, h3⟩ := h
  refine ⟨A, c, h1, h2, h3.keep (fun b hb => hk.block b hb.lt (hm b hb)) (fun b hb => ?_)⟩
  have hlt := hb.lt
  have hb0 := hb
  obtain ⟨⟨cur, hb⟩, he⟩ := hb
  exact ⟨⟨cur, (hk.block b hlt (hm b hb0)).trans hb⟩, hE b hlt he⟩
theorem Cl.mono {E E' : Nat → Prop} {w : World} {v : Value} {xs : List Int} (h : Cl E w v xs) (hE : ∀ b, b < w.heap.size → E b → E' b) : Cl E' w v xs :=
  h.kp (Kp.refl (fun _ => False) w) (fun _ _ h => h) hE
theorem Cl.of_blk {E : Nat → Prop} {w : World} {g : Nat} {xs : List Int} {ys : Array Value} (h : Blk w g 3 ys) (hy : ys = (xs.map I64).toArray) (hE : E g) : Cl E w (.slice (some ⟨g, 0, none⟩) xs.length xs.length) xs := by
  refine ⟨_, _, rfl, Nat.le_refl _, fun _ => ⟨_, _, rfl, ⟨⟨ys, h⟩, hE⟩, fun j hj => ?_⟩⟩
  rw [h.cell, hy]
  simp [hj]
def St (E : Nat → Prop) (w : World) (p : Nat) (mv : Value) (nx : Int) (cv : Value) (cs : List (List Int)) : Prop :=
  ∃ vs, Blk w p 96 #[mv, cv, I64 nx] ∧ Own w 24 cv vs ∧ vs.length = cs.length ∧ ∀ (j : Nat) v xs, vs[j]? = some v → cs[j]? = some xs → Cl E w v xs
def Stp (p : Nat) (w : World) (cv : Value) (w' : World) (cv' : Value) : Prop :=
  Kp (fun k => k = p ∨ cv.ownBlock = some k) w w' ∧ ∀ g, cv'.ownBlock = some g → cv.ownBlock = some g ∨ w.heap.size ≤ g
theorem Stp.refl (p : Nat) (w : World) (cv : Value) : Stp p w cv w cv := ⟨Kp.refl _ _, fun _ h => .inl h⟩
theorem Stp.trans {p : Nat} {w w' w'' : World} {cv cv' cv'' : Value} (h : Stp p w cv w' cv') (h' : Stp p w' cv' w'' cv'') : Stp p w cv w'' cv'' := by
  refine ⟨h.1.trans h'.1 fun k hk hm => ?_, fun g hg => ?_⟩
  · rcases hm with rfl | hm
    · exact .inl rfl
    · rcases h.2 k hm with h2 | h2
      · exact .inr h2
      · omega
  · rcases h'.2 g hg with h2 | h2
    · exact h.2 g h2
    · exact .inr (Nat.le_trans h.1.size h2)
theorem Stp.drewN {p : Nat} {w w' : World} {cv cv' : Value} (h : Stp p w cv w' cv') (n : Nat) : Stp p w cv (w'.drewN n) cv' := ⟨h.1.drewN n, h.2⟩
theorem Stp.alloc {p : Nat} {w w' : World} {cv cv' : Value} (h : Stp p w cv w' cv') (o : Obj) : Stp p w cv (w'.alloc o) cv' := ⟨h.1.alloc o, h.2⟩
theorem Stp.size {p : Nat} {w w' : World} {cv cv' : Value} (h : Stp p w cv w' cv') : w.heap.size ≤ w'.heap.size := h.1.size
theorem St.kp {E E' M : Nat → Prop} {w w' : World} {p : Nat} {mv : Value} {nx : Int} {cv : Value} {cs : List (List Int)} (h : St E w p mv nx cv cs) (hk : Kp M w w') (hp : ¬ M p) (hc : ∀ g, cv.ownBlock = some g → ¬ M g)
    (hm : ∀ b, T3 E w b → ¬ M b) (hE : ∀ b, b < w.heap.size → E b → E' b) : St E' w' p mv nx cv cs := by
  obtain ⟨vs, h1, h2, h3, h4⟩ := h
  exact ⟨vs, h1.kp hk hp, h2.kp hk hc, h3, fun j v xs hv hx => (h4 j v xs hv hx).kp hk hm hE⟩
theorem St.alloc {E : Nat → Prop} {w : World} {p : Nat} {mv : Value} {nx : Int} {cv : Value} {cs : List (List Int)} (h : St E w p mv nx cv cs) (o : Obj) : St E (w.alloc o) p mv nx cv cs :=
  h.kp ((Kp.refl (fun _ => False) w).alloc o) (fun h => h) (fun _ _ h => h) (fun _ _ h => h) (fun _ _ h => h)
theorem St.drewN {E : Nat → Prop} {w : World} {p : Nat} {mv : Value} {nx : Int} {cv : Value} {cs : List (List Int)} (h : St E w p mv nx cv cs) (n : Nat) : St E (w.drewN n) p mv nx cv cs :=
  h.kp ((Kp.refl (fun _ => False) w).drewN n) (fun h => h) (fun _ _ h => h) (fun _ _ h => h) (fun _ _ h => h)
set_option maxHeartbeats 400000 in
theorem one_any (p : Nat) (mv cv : Value) (nx : Int) (w : World) (hp : Blk w p 96 #[mv, cv, I64 nx]) (h0 : 0 ≤ nx) (h1 : nx ≤ 1000000000) :
    Calls Tryd.prog 83 #[.pointer (some ⟨p, 0, none⟩)] w fun e w' => e = .returned (I64 nx) ∧ w' = w.setCell ⟨p, 2, none⟩ (I64 (nx + 1)) := by
  have c2 := hp.cell 2
  have f2 := hp.frozen 2
  simp only [List.getElem?_toArray, List.getElem?_cons_succ, List.getElem?_cons_zero] at c2
  have HP := Lib.hid hp
  clear hp
  go_enter Tryd.func83, Tryd.ntmps83
  go_wp2
  go_ret
  exact ⟨by simp, rfl⟩
set_option maxHeartbeats 400000 in
theorem say_own (p : Nat) (mv cv : Value) (nx : Int) (A : Option Addr) (n c : Nat) (vs : List Value) (w : World) (hp : Blk w p 96 #[mv, cv, I64 nx]) (hown : Own w 24 cv vs) (hn : vs.length < 1000000000000) :
    Calls Tryd.prog 86 #[.pointer (some ⟨p, 0, none⟩), .slice A n c] w fun e w' => e = .returned (.tuple #[]) ∧ ∃ cv', Blk w' p 96 #[mv, cv', I64 nx] ∧ Own w' 24 cv' (vs ++ [.slice A n c]) ∧
      Stp p w cv w' cv' := by
  obtain ⟨i0, hi, hz0, hz1, hz2⟩ := info_parts info_ints
  have c1 := hp.cell 1
  have hlt := hp.lt
  have hpne := hown.ne_blk hp (by decide)
  simp only [List.getElem?_toArray, List.getElem?_cons_succ, List.getElem?_cons_zero] at c1
  have HP := Lib.hid hp
  have HO := Lib.hid hown
  have HN := Lib.hid hpne
  have HI := Lib.hid (And.intro hi (And.intro hz0 (And.intro hz1 hz2)))
  clear hp hown hpne hi hz0 hz1 hz2
  go_enter Tryd.func86, Tryd.ntmps86
  go_wp2_with (at_builtin; refine wpList_push _ rfl _ _ 27 rfl 24 i0 (.slice none 0 0) 24 Tryd.underlying27 HI.out.1 HI.out.2.1 HI.out.2.2.1 HI.out.2.2.2 rfl _ vs vs.length rfl rfl (HO.out.alloc _) ⟨w.heap.size, 0, none⟩ 1 (.slice A n c) rfl ?c1 rfl ?c2 ?c3 ?_)
  case c1 => simp
  case c2 => unfold maxLen; omega
  case c3 => omega
  intro g off cap w1 hown1 hg1 hat
  have hp1 : Blk w1 p 96 #[mv, cv, I64 nx] := (HP.out.alloc _).grown hg1 (fun e => HN.out e.symm)
  have c1' := hp1.cell 1
  have f1' := hp1.frozen 1
  simp only [List.getElem?_toArray, List.getElem?_cons_succ, List.getElem?_cons_zero] at c1'
  have HP1 := Lib.hid hp1
  have HO1 := Lib.hid hown1
  have HG1 := Lib.hid hg1
  have HA := Lib.hid hat
  clear hp1 hown1 hg1 hat
  go_wp2
  go_end0
  refine ⟨rfl, .slice (some ⟨g, off, none⟩) (vs.length + 1) cap, ?_, ?_, ?_, ?_⟩
  · simpa using HP1.out.set_ 1 (.slice (some ⟨g, off, none⟩) (vs.length + 1) cap)
  · exact HO1.out.far (HO1.out.ne_blk HP1.out (by decide)) _
  · exact (((Kp.refl _ w).alloc _).grown HG1.out (fun g' e _ => .inr e)).setCell (fun _ => .inl rfl) _
  · intro g' hg'
    have : g = g' := by simpa [Value.ownBlock] using hg'
    subst this
    rcases HA.out with h | h
    · exact .inl h
    · right; rw [h]; simp
theorem say_any {E : Nat → Prop} (p : Nat) (mv cv lv : Value) (nx : Int) (xs : List Int) (cs : List (List Int)) (w : World) (h : St E w p mv nx cv cs) (hl : Cl E w lv xs) (hn : cs.length < 1000000000000) :
    Calls Tryd.prog 86 #[.pointer (some ⟨p, 0, none⟩), lv] w fun e w' => e = .returned (.tuple #[]) ∧ ∃ cv', St E w' p mv nx cv' (cs ++ [xs]) ∧ Stp p w cv w' cv' := by
  obtain ⟨vs, h1, h2, h3, h4⟩ := h
  have hl0 := hl
  obtain ⟨A, c, rfl, hc, hr⟩ := hl
  refine (say_own p mv cv nx A _ c vs w h1 h2 (by omega)).mono ?_
  rintro e w' ⟨he, cv', g1, g2, g3⟩
  have hm : ∀ b, T3 E w b → ¬ (b = p ∨ cv.ownBlock = some b) := fun b hb hm => by
    rcases hm with hm | hm
    · exact hb.ne_blk h1 (by decide) hm
    · exact hb.ne_own h2 (by decide) hm
  refine ⟨he, cv', ⟨_, g1, g2, by simp [h3], fun j v ys hv hy => ?_⟩, g3⟩
  rw [List.getElem?_append] at hv hy
  rw [h3] at hv
  by_cases hj : j < cs.length
  · rw [if_pos hj] at hv hy
    exact (h4 j v ys hv hy).kp g3.1 hm (fun _ _ h => h)
  · rw [if_neg hj] at hv hy
    have : j - cs.length = 0 := by
      rcases Nat.eq_zero_or_pos (j - cs.length) with h | h
      · exact h
      · rw [List.getElem?_eq_none (by simp; omega)] at hv; cases hv
    rw [this] at hv hy
    simp at hv hy
    subst hv hy
    exact hl0.kp g3.1 hm (fun _ _ h => h)
set_option maxHeartbeats 400000 in
theorem add2_any {E : Nat → Prop} (p bw bc : Nat) (mv cv : Value) (nx x y c : Int) (cs : List (List Int)) (w : World) (h : St E w p mv nx cv cs) (hE : ∀ b, w.heap.size ≤ b → E b) (hn : cs.length < 1000000000000)
    (hw : Blk w bw 93 #[.pointer (some ⟨p, 0, none⟩)]) (hc : Blk w bc 3 #[I64 c]) (hx : -1000000000 ≤ x) (hx' : x ≤ 1000000000) (hy : -1000000000 ≤ y) (hy' : y ≤ 1000000000) :
    Calls Tryd.prog 88 #[I64 x, I64 y, .pointer (some ⟨bw, 0, none⟩), .pointer (some ⟨bc, 0, none⟩)] w fun e w' => e = .returned (.tuple #[]) ∧ ∃ cv', St E w' p mv nx cv' (cs ++ [[-x, -y, c]]) ∧ Stp p w cv w' cv' := by
  have c1 := hw.cell 0
  have c2 := hc.cell 0
  simp only [List.getElem?_toArray, List.getElem?_cons_zero] at c1 c2
  have HS := Lib.hid h
  have HE := Lib.hid hE
  clear h hw hc hE
  go_enter Tryd.func88, Tryd.ntmps88
  go_wp2_with fail
  have hcl : Cl E (w.alloc (.cells #[I64 (-x), I64 (-y), I64 c] 3)) (.slice (some ⟨w.heap.size, 0, none⟩) 3 3) [-x, -y, c] := Cl.of_blk (xs := [-x, -y, c]) (Blk.new w _ _) rfl (HE.out _ (Nat.le_refl _))
  refine (say_any p mv cv _ nx [-x, -y, c] cs _ (HS.out.alloc _) hcl hn).mono ?_
  rintro e w1 ⟨rfl, cv', s1, s2⟩
  have HS1 := Lib.hid s1
  have HS2 := Lib.hid s2
  clear s1 s2 hcl
  go_wp2_with fail
  go_end0
  exact ⟨rfl, cv', HS1.out, ((Stp.refl p w cv).alloc _).trans HS2.out⟩
set_option maxHeartbeats 400000 in
theorem add3_any {E : Nat → Prop} (p bw bc : Nat) (mv cv : Value) (nx x y c : Int) (cs : List (List Int)) (w : World) (h : St E w p mv nx cv cs) (hE : ∀ b, w.heap.size ≤ b → E b) (hn : cs.length < 1000000000000)
    (hw : Blk w bw 93 #[.pointer (some ⟨p, 0, none⟩)]) (hc : Blk w bc 3 #[I64 c]) (hx : -1000000000 ≤ c) (hx' : c ≤ 1000000000) :
    Calls Tryd.prog 89 #[I64 x, I64 y, .pointer (some ⟨bw, 0, none⟩), .pointer (some ⟨bc, 0, none⟩)] w fun e w' => e = .returned (.tuple #[]) ∧ ∃ cv', St E w' p mv nx cv' (cs ++ [[x, y, -c]]) ∧ Stp p w cv w' cv' := by
  have c1 := hw.cell 0
  have c2 := hc.cell 0
  simp only [List.getElem?_toArray, List.getElem?_cons_zero] at c1 c2
  have HS := Lib.hid h
  have HE := Lib.hid hE
  clear h hw hc hE
  go_enter Tryd.func89, Tryd.ntmps89
  go_wp2_with fail
  have hcl : Cl E (w.alloc (.cells #[I64 x, I64 y, I64 (-c)] 3)) (.slice (some ⟨w.heap.size, 0, none⟩) 3 3) [x, y, -c] := Cl.of_blk (xs := [x, y, -c]) (Blk.new w _ _) rfl (HE.out _ (Nat.le_refl _))
  refine (say_any p mv cv _ nx [x, y, -c] cs _ (HS.out.alloc _) hcl hn).mono ?_
  rintro e w1 ⟨rfl, cv', s1, s2⟩
  have HS1 := Lib.hid s1
  have HS2 := Lib.hid s2
  clear s1 s2 hcl
  go_wp2_with fail
  go_end0
  exact ⟨rfl, cv', HS1.out, ((Stp.refl p w cv).alloc _).trans HS2.out⟩
end Go.Proofs.YtkkapbnopmmmjaaDoor
namespace Go.Proofs.YtkkapbnopmmmjaaDoor.En
open Go
def glb : List (Nat × List Value) := [(1, Lib.deBruijn64tab.map fun (n : Nat) => Value.int .u8 (n : Int))]
def glwL : List (Nat × Nat) := []
end Go.Proofs.YtkkapbnopmmmjaaDoor.En
namespace Go.Proofs.YtkkapbnopmmmjaaDoor
open Go.RowKit
set_option maxHeartbeats 400000 in
theorem clone_any {D : Nat → Prop} (b off c : Nat) (l : List Int) (w : World) (h : Rd I64 D w (some ⟨b, off, none⟩) l) (hl : l.length < 1000000000000) :
    Calls Tryd.prog 84 #[.slice (some ⟨b, off, none⟩) l.length c] w fun e w' => ∃ A cap, e = .returned (.slice A l.length cap) ∧ Own w' 3 (.slice A l.length cap) (l.map I64) ∧ Kp (fun _ => False) w w' ∧
      ∀ g, (Value.slice A l.length cap).ownBlock = some g → w.heap.size ≤ g := by
  obtain ⟨i0, hi, hz0, hz1, hz2⟩ := info_parts info_int
  have hnil := Lib.run_eql_slice_nil (P := Tryd.prog)
  have HI := Lib.hid (And.intro hi (And.intro hz0 (And.intro hz1 hz2)))
  have hcells : ∀ j u, (l.map I64)[j]? = some u → (w.alloc (.cells #[] 3)).cell? ((⟨b, off, none⟩ : Addr).add j) = some u := fun j u hu => by
    rw [List.getElem?_map, Option.map_eq_some_iff] at hu
    obtain ⟨x, hx, rfl⟩ := hu
    obtain ⟨hj, rfl⟩ := List.getElem?_eq_some_iff.1 hx
    obtain ⟨b', off', e, _, hc⟩ := h (by omega)
    cases e
    rw [add_mk]
    have h1 := hc j hj
    rw [World.cell?_alloc_lt w _ _ (World.block_lt_of_cell? w _ h1)]
    exact h1
  have HC := Lib.hid hcells
  have HLm := Lib.hid (show (l.map I64).length = l.length by simp)
  clear hi hz0 hz1 hz2 h hcells
  go_enter Tryd.func84, Tryd.ntmps84
  go_wp2_with (at_builtin; refine wpList_appends _ rfl (.tmp 5) (.tmp 6) 24 rfl 3 i0 (.int .i64 0) 8 Tryd.underlying24 HI.out.1 HI.out.2.1 HI.out.2.2.1 HI.out.2.2.2 rfl _ [] rfl (Own.empty w _) ⟨b, off, none⟩ c (l.map I64) ?c0 HC.out ?c1 ?c2 ?c3 ?_)
  case c0 => rw [HLm.out]; rfl
  case c1 => intro u hu; obtain ⟨x, _, rfl⟩ := List.mem_map.1 hu; rfl
  case c2 => rw [HLm.out]; simp [maxLen]; omega
  case c3 => rw [HLm.out]; simp; omega
  intro A cap w1 h1 h2 h3
  have H1 := Lib.hid h1
  have H2 := Lib.hid h2
  have H3 := Lib.hid h3
  clear h1 h2 h3
  go_wp2
  go_ret
  refine ⟨A, cap, rfl, H1.out, ?_, ?_⟩
  · exact ((Kp.refl _ w).alloc _).grown H2.out (fun g e hg => by simp [Value.ownBlock] at e; omega)
  · intro g hg
    rcases H3.out g hg with e | e
    · simp [Value.ownBlock] at e; omega
    · omega
theorem ones_any (n : Nat) (hn : n < 8) (w : World) : Calls Tryd.prog 85 #[.int .u64 n] w fun e w' => e = .returned (I64 (pop8 n : Nat)) ∧ w = w' := by
  match n, hn with
  | 0, _ => go_enter Tryd.func85, Tryd.ntmps85; go_wp2; go_ret; exact ⟨by kernel_rfl, rfl⟩
  | 1, _ => go_enter Tryd.func85, Tryd.ntmps85; go_wp2; go_ret; exact ⟨by kernel_rfl, rfl⟩
  | 2, _ => go_enter Tryd.func85, Tryd.ntmps85; go_wp2; go_ret; exact ⟨by kernel_rfl, rfl⟩
  | 3, _ => go_enter Tryd.func85, Tryd.ntmps85; go_wp2; go_ret; exact ⟨by kernel_rfl, rfl⟩
  | 4, _ => go_enter Tryd.func85, Tryd.ntmps85; go_wp2; go_ret; exact ⟨by kernel_rfl, rfl⟩
  | 5, _ => go_enter Tryd.func85, Tryd.ntmps85; go_wp2; go_ret; exact ⟨by kernel_rfl, rfl⟩
  | 6, _ => go_enter Tryd.func85, Tryd.ntmps85; go_wp2; go_ret; exact ⟨by kernel_rfl, rfl⟩
  | 7, _ => go_enter Tryd.func85, Tryd.ntmps85; go_wp2; go_ret; exact ⟨by kernel_rfl, rfl⟩
def TabAt (w : World) : Prop := ∀ j, j < 64 → w.cell? ⟨1, j, none⟩ = some (.int .u8 (Lib.deBruijn64tab.getD j 0))
theorem TabAt.kp {M : Nat → Prop} {w w' : World} (h : TabAt w) (hk : Kp M w w') (hm : ¬ M 1) : TabAt w' := fun j hj =>
  (hk.cell (World.block_lt_of_cell? w _ (h j hj)) hm).trans (h j hj)
theorem tz64_key (x a : Nat) (hx : x < 18446744073709551616) (hx0 : x ≠ 0) (hlow : x &&& (18446744073709551616 - x) = a) :
    IntKind.u64.wrap (bits BinOp.and IntKind.u64 (x : Int) (IntKind.u64.wrap (-(x : Int))) * 285870213051353865) / 288230376151711744 = ((a * 285870213051353865 % 18446744073709551616 / 288230376151711744 : Nat) : Int) := by
  have e1 : IntKind.u64.wrap (-(x : Int)) = ((18446744073709551616 - x : Nat) : Int) := by rw [IntKind.wrap_u64]; omega
  rw [e1, bits_and_u64_nat x _ hx (by omega), hlow, IntKind.wrap_u64]
  omega
set_option maxHeartbeats 1000000 in
theorem tz_core (x k idx : Nat) (w : World) (hx0 : ((x : Int) == 0) = false)
    (key : IntKind.u64.wrap (bits BinOp.and IntKind.u64 (x : Int) (IntKind.u64.wrap (-(x : Int))) * 285870213051353865) / 288230376151711744 = (idx : Int))
    (hi : idx < 64) (hk : k < 64) (hcell : w.cell? ⟨1, idx, none⟩ = some (.int .u8 k)) :
    Calls Tryd.prog 82 #[.int .u64 x] w fun e w' => e = .returned (.int .i64 k) ∧ w = w' := by
  go_enter Tryd.func82, Tryd.ntmps82
  go_wp2_with (simp only [key])
  go_ret
  exact ⟨rfl, rfl⟩
theorem tz64_any (x : Nat) (hx : x < 18446744073709551616) (hx0 : x ≠ 0) (w : World) (hT : TabAt w) :
    Calls Tryd.prog 82 #[.int .u64 x] w fun e w' => e = .returned (.int .i64 (Lib.ctz 64 x)) ∧ w = w' := by
  obtain ⟨hlow, hk⟩ := Lib.lowest_bit 64 x hx0 hx
  obtain ⟨hi, htab⟩ := Lib.deBruijn64_at _ hk
  have hcell := hT _ hi
  rw [htab] at hcell
  exact tz_core x _ _ w (by simp; omega) (tz64_key x _ hx hx0 hlow) hi hk hcell
theorem tz_any (x : Nat) (hx : x < 18446744073709551616) (hx0 : x ≠ 0) (w : World) (hT : TabAt w) :
    Calls Tryd.prog 64 #[.int .u64 x] w fun e w' => e = .returned (.int .i64 (Lib.ctz 64 x)) ∧ w = w' := by
  have HT := Lib.hid hT
  clear hT
  go_enter Tryd.func64, Tryd.ntmps64
  go_wp2_with (go_at_call 82; refine (tz64_any x hx hx0 w HT.out).mono ?_; rintro e w' ⟨rfl, rfl⟩)
  go_ret
  exact ⟨rfl, rfl⟩
end Go.Proofs.YtkkapbnopmmmjaaDoor
namespace Go.Proofs.YtkkapbnopmmmjaaDoor
open Go.RowKit Go.Shelf
def Bag (B : Nat) (w : World) (ov : Value) (cs : List (List Int)) : Prop :=
  ∃ vs, Own w 24 ov vs ∧ (∀ g, ov.ownBlock = some g → B ≤ g) ∧ vs.length = cs.length ∧ ∀ (j : Nat) v xs, vs[j]? = some v → cs[j]? = some xs → Cl (fun b => B ≤ b) w v xs
section
variable {B : Nat} {w w' : World} {ov : Value} {cs : List (List Int)}
theorem Bag.nil (B : Nat) (w : World) : Bag B w (.slice none 0 0) [] := ⟨[], Own.nil _ _, fun g h => by simp [Value.ownBlock] at h, rfl, fun j v xs hv => by simp at hv⟩
theorem Bag.below (h : Bag B w ov cs) (hb : Below w.heap.size w w') : Bag B w' ov cs := by
  obtain ⟨vs, h1, h2, h3, h4⟩ := h
  have hk := Kp.of_below hb
  exact ⟨vs, h1.kp hk (fun g hg e => by have := h1.lt hg; omega), h2, h3, fun j v xs hv hx => (h4 j v xs hv hx).kp hk (fun b hb e => by have := hb.lt; omega) (fun _ _ h => h)⟩
theorem Bag.kp0 (h : Bag B w ov cs) (hk : Kp (fun _ => False) w w') : Bag B w' ov cs := by
  obtain ⟨vs, h1, h2, h3, h4⟩ := h
  exact ⟨vs, h1.kp hk (fun _ _ h => h), h2, h3, fun j v xs hv hx => (h4 j v xs hv hx).kp hk (fun _ _ h => h) (fun _ _ h => h)⟩
theorem Bag.form (h : Bag B w ov cs) : ∃ vs, Own w 24 ov vs ∧ vs.length = cs.length := by
  obtain ⟨vs, h1, _, h3, _⟩ := h
  exact ⟨vs, h1, h3⟩
theorem Bag.push {vs : List Value} {lv : Value} {xs : List Int} {o : Obj} {gg off cap : Nat} (hB : B ≤ w.heap.size) (h1 : Own w 24 ov vs) (h2 : ∀ g, ov.ownBlock = some g → B ≤ g) (h3 : vs.length = cs.length)
    (h4 : ∀ (j : Nat) v xs, vs[j]? = some v → cs[j]? = some xs → Cl (fun b => B ≤ b) w v xs) (hl : Cl (fun b => B ≤ b) w lv xs)
    (hown : Own w' 24 (.slice (some ⟨gg, off, none⟩) (cs.length + 1) cap) (vs ++ [lv])) (hg : (w.alloc o).grownBy w' ov.ownBlock) (hat : ov.ownBlock = some gg ∨ gg = w.heap.size + 1) :
    Bag B w' (.slice (some ⟨gg, off, none⟩) (cs.length + 1) cap) (cs ++ [xs]) ∧ Below B w w' := by
  have hk : Kp (fun b => ov.ownBlock = some b) w w' := ((Kp.refl (fun b => ov.ownBlock = some b) w).alloc o).grown hg (fun _ e _ => e)
  have hc : ∀ {v : Value} {ys : List Int}, Cl (fun b => B ≤ b) w v ys → Cl (fun b => B ≤ b) w' v ys := fun h => h.kp hk (fun b hb e => hb.ne_own h1 (by decide) e) (fun _ _ h => h)
  refine ⟨⟨_, hown, fun g hgg => ?_, by simp [h3], fun j v ys hv hy => ?_⟩, hk.below (fun b hb _ e => by have := h2 b e; omega) hB⟩
  · have e : gg = g := by simpa [Value.ownBlock] using hgg
    subst e
    rcases hat with e | e
    · exact h2 _ e
    · omega
  · rw [List.getElem?_append] at hv hy
    rw [h3] at hv
    by_cases hj : j < cs.length
    · rw [if_pos hj] at hv hy
      exact hc (h4 j v ys hv hy)
    · rw [if_neg hj] at hv hy
      have e0 : j - cs.length = 0 := by
        rcases Nat.eq_zero_or_pos (j - cs.length) with h | h
        · exact h
        · rw [List.getElem?_eq_none (by simp; omega)] at hv; cases hv
      rw [e0] at hv hy
      simp at hv hy
      subst hv hy
      exact hc hl
theorem Bag.rdl (h : Bag B w ov cs) : ∃ C cC, ov = .slice C cs.length cC ∧ cs.length ≤ cC ∧ RdL (· < w.heap.size) w C cs := by
  obtain ⟨vs, h2, _, h3, h4⟩ := h
  have h2' := h2
  obtain ⟨C, cC, e, hc, hcell⟩ := h2.cell
  rw [h3] at e hc
  refine ⟨C, cC, e, hc, fun hn => ?_⟩
  obtain ⟨b, off, e1, hb, _⟩ := hcell 0 (by omega)
  refine ⟨b, off, e1, h2'.lt hb, fun j hj => ?_⟩
  obtain ⟨b', off', e2, _, hc'⟩ := hcell j (by omega)
  rw [e1] at e2
  cases e2
  obtain ⟨A', c', e3, h5, h6⟩ := h4 j (vs[j]'(by omega)) cs[j] (List.getElem?_eq_getElem (by omega)) (List.getElem?_eq_getElem hj)
  exact ⟨A', c', by rw [hc', e3], h5, h6.mono (fun b hb => hb.lt)⟩
end
def Preds (f : Nat) (lb : List Value) (pd : Int → Bool) (l : List Int) (w : World) : Prop :=
  ∀ x ∈ l, ∀ n, Calls Tryd.prog f (I64 x :: lb).toArray (w.drewN n) fun e w' => e = .returned (.bool (pd x)) ∧ ∃ q, w' = w.drewN q
set_option maxHeartbeats 800000 in
theorem if_any {D : Nat → Prop} (f : Nat) (lb : List Value) (pd : Int → Bool) (A : Option Addr) (c : Nat) (l : List Int) (w : World) (heg : ∀ (args : Array Value) (w : World), (callFunc f args).run Tryd.prog w = .ok (.enter f args) w)
    (hp : Preds f lb pd l w) (hr : Rd I64 D w A l) (hl : l.length ≤ maxLen) :
    Calls Tryd.prog 47 #[.slice A l.length c, .func (.func f) #[] lb.toArray] w fun e w' => (∃ i : Int, e = .returned (I64 i) ∧ (decide (0 ≤ i) = l.any pd)) ∧ ∃ q, w' = w.drewN q := by
  unfold maxLen at hl
  have HP := Lib.hid hp
  have HR := Lib.hid hr
  clear hp hr
  go_enter Tryd.func47, Tryd.ntmps47
  go_wp2_with fail
  go_loopw [8] (fun i wr => ∃ k q : Nat, i = .int .i64 k ∧ k ≤ l.length ∧ wr = w.drewN q ∧ (l.take k).any pd = false) (fun i _ => l.length - (intOf i).toNat)
  case atStart => exact ⟨0, 0, rfl, Nat.zero_le _, rfl, rfl⟩
  case round =>
    obtain ⟨k, q, rfl, hk, hw, ht⟩ := hrel
    have HW := Lib.hid hw
    have HT := Lib.hid ht
    clear ht hw
    by_cases hlt : k < l.length
    · obtain ⟨a, oa, rfl, _, ca⟩ := (show Rd I64 D wr A l by rw [HW.out]; exact HR.out).at_ hlt
      have hpx := HP.out l[k] (List.getElem_mem hlt) q
      have htk : (l.take (k + 1)).any pd = pd l[k] := by rw [List.take_succ_eq_append_getElem hlt, List.any_append, HT.out]; simp
      have hyes : pd l[k] = true → l.any pd = true := fun h => List.any_eq_true.2 ⟨l[k], List.getElem_mem hlt, h⟩
      rw [← HW.out] at hpx
      generalize l[k] = x at ca hpx htk hyes
      have HPX := Lib.hid hpx
      have HTK := Lib.hid htk
      have HY := Lib.hid hyes
      clear hpx htk hyes
      generalize hb : pd x = b at HPX HTK HY
      have HBB := Lib.hid hb
      clear hb
      go_wp2_with fail
      refine HPX.out.mono ?_
      rintro e w3 ⟨rfl, q3, hq3⟩
      have HQ3 := Lib.hid hq3
      clear hq3
      cases b
      · go_wp2_with fail
        go_roundw
        case rel => exact ⟨k + 1, q3, by go_num, by omega, HQ3.out, HTK.out⟩
        case measure => simp [intOf]; omega
      · go_wp2_with fail
        go_ret
        exact ⟨⟨_, rfl, by have h := HY.out (by simp); rw [h]; simp⟩, q3, HQ3.out⟩
    · go_wp2_with fail
      go_ret
      refine ⟨⟨_, rfl, ?_⟩, q, HW.out⟩
      have h2 := HT.out
      rw [List.take_of_length_le (by omega)] at h2
      rw [h2]; rfl
set_option maxHeartbeats 400000 in
theorem cf_any {D : Nat → Prop} (f : Nat) (lb : List Value) (pd : Int → Bool) (A : Option Addr) (c : Nat) (l : List Int) (w : World) (heg : ∀ (args : Array Value) (w : World), (callFunc f args).run Tryd.prog w = .ok (.enter f args) w)
    (hp : Preds f lb pd l w) (hr : Rd I64 D w A l) (hl : l.length ≤ maxLen) :
    Calls Tryd.prog 33 #[.slice A l.length c, .func (.func f) #[] lb.toArray] w fun e w' => e = .returned (.bool (l.any pd)) ∧ ∃ q, w' = w.drewN q := by
  have H := Lib.hid (if_any f lb pd A c l w heg hp hr hl)
  clear heg hp hr hl
  go_enter Tryd.func33, Tryd.ntmps33
  go_wp2_with fail
  refine H.out.mono ?_
  rintro e w3 ⟨⟨i, rfl, hi⟩, q3, hq3⟩
  have HI := Lib.hid hi
  have HQ3 := Lib.hid hq3
  clear hi hq3
  go_wp2_with fail
  go_ret
  exact ⟨by simp [← HI.out], q3, HQ3.out⟩
end Go.Proofs.YtkkapbnopmmmjaaDoor
namespace Go.Proofs.YtkkapbnopmmmjaaDoor
open Go.RowKit Go.Shelf
theorem below_up {w w' w'' : World} (h : Below w.heap.size w w') (h' : Below w'.heap.size w' w'') : Below w.heap.size w w'' := h.trans ⟨h'.os, h'.tape, h'.output, h'.size, fun i hi => h'.block i (Nat.lt_of_lt_of_le hi h.size)⟩
theorem RdL.up {w w' : World} {A : Option Addr} {xs : List (List Int)} (h : RdL (· < w.heap.size) w A xs) (hb : Below w.heap.size w w') : RdL (· < w'.heap.size) w' A xs := (h.below hb).mono (fun _ h => Nat.lt_of_lt_of_le h hb.size)
theorem Rd.up {α : Type} {enc : α → Value} {w w' : World} {A : Option Addr} {xs : List α} (h : Rd enc (· < w.heap.size) w A xs) (hb : Below w.heap.size w w') : Rd enc (· < w'.heap.size) w' A xs := (h.below hb).mono (fun _ h => Nat.lt_of_lt_of_le h hb.size)
theorem below1 (w : World) (o : Obj) : Below w.heap.size w (w.alloc o) := (Below.refl _ _).alloc (Nat.le_refl _) _
theorem below2 (w : World) (o o2 : Obj) : Below w.heap.size w ((w.alloc o).alloc o2) := below_up (below1 w o) (below1 _ o2)
theorem below_n {B : Nat} {w w' : World} (h : Below B w w') (n : Nat) : Below B w (w'.drewN n) := ⟨h.os, h.tape, h.output, h.size, h.block⟩
theorem blk2 (w : World) (o : Obj) (t : TypeId) (ys : Array Value) : Blk ((w.alloc o).alloc (.cells ys t)) (w.heap.size + 1) t ys := by simpa using Blk.new (w.alloc o) t ys
theorem ret_eq {x y : Int} (h : x = y) : Ending.returned (I64 x) = Ending.returned (I64 y) := by rw [h]
end Go.Proofs.YtkkapbnopmmmjaaDoor
namespace Go.Proofs.YtkkapbnopmmmjaaDoor
open Go.RowKit Go.Shelf
theorem of_any (x : Int) (w : World) (h1 : -70000 ≤ x) (h2 : x ≤ 70000) : Calls Tryd.prog 22 #[I64 x] w fun e w' => e = .returned (I64 (x.natAbs : Int)) ∧ w = w' := by
  by_cases h : 0 < x
  · have HR := Lib.hid (show (x.natAbs : Int) = x by omega)
    go_enter Tryd.func22, Tryd.ntmps22
    go_wp2
    go_ret
    exact ⟨by rw [HR.out]; rfl, rfl⟩
  · have HR := Lib.hid (show (x.natAbs : Int) = -x by omega)
    go_enter Tryd.func22, Tryd.ntmps22
    go_wp2
    all_goals
      go_ret
      exact ⟨by rw [HR.out]; exact ret_eq (by omega), rfl⟩
theorem within_any (c : Int) (w : World) : Calls Tryd.prog 31 #[I64 c] w fun e w' => e = .returned (.bool (!offN c)) ∧ w = w' := by
  by_cases h1 : c < -1099511627776
  · have e1 : decide (-1099511627776 ≤ c) = false := by simp; omega
    have HR := Lib.hid (show offN c = true by simp [offN, h1])
    go_enter Tryd.func31, Tryd.ntmps31
    go_wp2
    go_ret
    exact ⟨by rw [HR.out]; rfl, rfl⟩
  · have e1 : decide (-1099511627776 ≤ c) = true := by simp; omega
    by_cases h2 : 1099511627776 < c
    · have e2 : decide (c ≤ 1099511627776) = false := by simp; omega
      have HR := Lib.hid (show offN c = true by simp [offN, h2])
      go_enter Tryd.func31, Tryd.ntmps31
      go_wp2
      go_ret
      exact ⟨by rw [HR.out]; rfl, rfl⟩
    · have e2 : decide (c ≤ 1099511627776) = true := by simp; omega
      have HR := Lib.hid (show offN c = false by simp [offN, h1, h2])
      go_enter Tryd.func31, Tryd.ntmps31
      go_wp2
      go_ret
      exact ⟨by rw [HR.out]; rfl, rfl⟩
theorem lcheck1_any (c : Int) (w : World) : Calls Tryd.prog 30 #[I64 c] w fun e w' => e = .returned (.bool (offN c)) ∧ w = w' := by
  go_enter Tryd.func30, Tryd.ntmps30
  go_wp2_with fail
  refine (within_any c w).mono ?_
  rintro e w1 ⟨rfl, rfl⟩
  go_wp2_with fail
  go_ret
  exact ⟨by simp, rfl⟩
theorem check2_any (x n : Int) (g : Nat) (w : World) (hg : w.cell? ⟨g, 0, none⟩ = some (I64 n)) (hn0 : 0 ≤ n) (hn : n ≤ 65536) : Calls Tryd.prog 32 #[I64 x, .pointer (some ⟨g, 0, none⟩)] w fun e w' => e = .returned (.bool (wrongL n x)) ∧ w = w' := by
  by_cases h0 : x = 0
  · have e0 : (x == 0) = true := by simpa using h0
    have HR := Lib.hid (show wrongL n x = true by simp [wrongL, h0])
    clear h0
    go_enter Tryd.func32, Tryd.ntmps32
    go_wp2
    go_ret
    exact ⟨by rw [HR.out]; rfl, rfl⟩
  · have e0 : (x == 0) = false := by simpa using h0
    by_cases h1 : n < x
    · have HR := Lib.hid (show wrongL n x = true by simp [wrongL, h1])
      clear h0
      go_enter Tryd.func32, Tryd.ntmps32
      go_wp2
      go_ret
      exact ⟨by rw [HR.out]; rfl, rfl⟩
    · have e1 : decide (n < x) = false := by simpa using h1
      by_cases h2 : x < -n
      · have HR := Lib.hid (show wrongL n x = true by simp [wrongL, h2])
        clear h0
        go_enter Tryd.func32, Tryd.ntmps32
        go_wp2
        go_ret
        exact ⟨by rw [HR.out]; rfl, rfl⟩
      · have e2 : decide (x < -n) = false := by simpa using h2
        have HR := Lib.hid (show wrongL n x = false by simp [wrongL, h0, h1, h2])
        clear h0
        go_enter Tryd.func32, Tryd.ntmps32
        go_wp2
        go_ret
        exact ⟨by rw [HR.out]; rfl, rfl⟩
abbrev linV (A L : Option Addr) (cA cL : Nat) (l : LinV) : Value := .agg #[.slice A l.C.length cA, .slice L l.L.length cL, I64 l.B]
def LinAt (w : World) (A L : Option Addr) (l : LinV) : Prop := Rd I64 (· < w.heap.size) w A l.C ∧ Rd I64 (· < w.heap.size) w L l.L ∧ l.C.length ≤ maxLen ∧ l.L.length ≤ maxLen
theorem LinAt.up {w w' : World} {A L : Option Addr} {l : LinV} (h : LinAt w A L l) (hb : Below w.heap.size w w') : LinAt w' A L l := ⟨h.1.up hb, h.2.1.up hb, h.2.2⟩
set_option maxHeartbeats 1600000 in
theorem lcheck_any (A L : Option Addr) (cA cL : Nat) (l : LinV) (n : Int) (w : World) (h : LinAt w A L l) :
    Calls Tryd.prog 14 #[linV A L cA cL l, I64 n] w fun e w' => e = .returned (I64 (lcheck l n)) ∧ Below w.heap.size w w' := by
  obtain ⟨hrc, hrl, hlc, hll⟩ := h
  have HRC := Lib.hid hrc
  have HRL := Lib.hid hrl
  unfold maxLen at hlc hll
  clear hrc hrl
  by_cases h1 : n < 0
  · have HE := Lib.hid (show lcheck l n = 1 by rw [lcheck, if_pos (.inl h1)])
    go_enter Tryd.func14, Tryd.ntmps14
    go_wp2_with fail
    go_ret
    exact ⟨by rw [HE.out]; rfl, below2 w _ _⟩
  · have e1 : decide (n < 0) = false := by simpa using h1
    by_cases h2 : 65536 < n
    · have HE := Lib.hid (show lcheck l n = 1 by rw [lcheck, if_pos (.inr (.inl h2))])
      go_enter Tryd.func14, Tryd.ntmps14
      go_wp2_with fail
      go_ret
      exact ⟨by rw [HE.out]; rfl, below2 w _ _⟩
    · have e2 : decide (65536 < n) = false := by simpa using h2
      by_cases h3 : l.C.length = l.L.length
      · have e3 : ((l.C.length : Int) != (l.L.length : Int)) = false := by simp; omega
        have H3 := Lib.hid h3
        clear h3
        cases h4 : offN l.B
        · have HB := Lib.hid h4
          have HE := Lib.hid (show lcheck l n = if l.C.any offN = true ∨ l.L.any (wrongL n) = true then 1 else if 4096 < l.L.length then 2 else 0 by rw [lcheck, if_neg (by rw [h4]; have := H3.out; simp; omega)])
          clear h4
          go_enter Tryd.func14, Tryd.ntmps14
          go_wp2_with fail
          have HBw := Lib.hid (below2 w (Obj.cells #[Value.slice A l.C.length cA, Value.slice L l.L.length cL, I64 l.B] 26) (Obj.cells #[I64 n] 3))
          have HD1 := Lib.hid ((Blk.new w 26 #[Value.slice A l.C.length cA, Value.slice L l.L.length cL, I64 l.B]).alloc (Obj.cells #[I64 n] 3))
          have HD2 := Lib.hid (blk2 w (Obj.cells #[Value.slice A l.C.length cA, Value.slice L l.L.length cL, I64 l.B] 26) 3 #[I64 n])
          generalize hw1 : (w.alloc (Obj.cells #[Value.slice A l.C.length cA, Value.slice L l.L.length cL, I64 l.B] 26)).alloc (Obj.cells #[I64 n] 3) = w1 at HBw HD1 HD2 ⊢
          clear hw1
          have cf1 := cf_any 30 [] offN A cA l.C w1 (enters_of Tryd.func30 (by kernel_rfl) rfl) (fun x _ q => (lcheck1_any x _).mono fun _ _ ⟨h1, h2⟩ => ⟨h1, q, h2.symm⟩) (HRC.out.up HBw.out) (by unfold maxLen; omega)
          have HCF1 := Lib.hid cf1
          have HCF2 := Lib.hid (fun q => cf_any 32 [.pointer (some ⟨w.heap.size + 1, 0, none⟩)] (wrongL n) L cL l.L (w1.drewN q) (enters_of Tryd.func32 (by kernel_rfl) rfl)
            (fun x _ r => (check2_any x n (w.heap.size + 1) ((w1.drewN q).drewN r) (HD2.out.cell 0) (by omega) (by omega)).mono fun _ _ ⟨h1, h2⟩ => ⟨h1, r, h2.symm⟩) (HRL.out.up (below_n HBw.out q)) (by unfold maxLen; omega))
          clear cf1
          refine (lcheck1_any l.B w1).mono ?_
          rintro e w2 ⟨rfl, rfl⟩
          rw [HB.out]
          have c0 : w1.cell? ⟨w.heap.size, 0, none⟩ = some (.slice A l.C.length cA) := HD1.out.cell 0
          have c1 : w1.cell? ⟨w.heap.size, 1, none⟩ = some (.slice L l.L.length cL) := HD1.out.cell 1
          generalize l.C.any offN = bC at HCF1 HE
          go_wp2_with fail
          refine HCF1.out.mono ?_
          rintro e w3 ⟨rfl, q3, hq3⟩
          cases bC
          · have hc2 := HCF2.out q3
            rw [← hq3] at hc2
            have HC2 := Lib.hid hc2
            have d1 : w3.cell? ⟨w.heap.size, 1, none⟩ = some (.slice L l.L.length cL) := by rw [hq3]; exact HD1.out.cell 1
            have HB3 := Lib.hid (show Below w.heap.size w w3 by rw [hq3]; exact below_n HBw.out _)
            have HD3 := Lib.hid (show ∀ q, (w3.drewN q).cell? ⟨w.heap.size, 1, none⟩ = some (.slice L l.L.length cL) from fun q => by rw [hq3]; exact HD1.out.cell 1)
            clear hq3 hc2 HCF1 HCF2
            generalize l.L.any (wrongL n) = bL at HC2 HE
            go_wp2_with fail
            refine HC2.out.mono ?_
            rintro e w4 ⟨rfl, q4, hq4⟩
            have d2 : w4.cell? ⟨w.heap.size, 1, none⟩ = some (.slice L l.L.length cL) := by rw [hq4]; exact HD3.out q4
            have HB4 := Lib.hid (show Below w.heap.size w w4 by rw [hq4]; exact below_n HB3.out _)
            clear hq4
            cases bL
            · by_cases h5 : 4096 < l.L.length
              · have HE2 := Lib.hid (show lcheck l n = 2 by rw [HE.out, if_neg (by simp), if_pos h5])
                go_wp2_with fail
                go_ret
                exact ⟨by rw [HE2.out]; rfl, HB4.out⟩
              · have HE2 := Lib.hid (show lcheck l n = 0 by rw [HE.out, if_neg (by simp), if_neg h5])
                go_wp2_with fail
                go_ret
                exact ⟨by rw [HE2.out]; rfl, HB4.out⟩
            · have HE2 := Lib.hid (show lcheck l n = 1 by rw [HE.out, if_pos (.inr rfl)])
              go_wp2_with fail
              go_ret
              exact ⟨by rw [HE2.out]; rfl, HB4.out⟩
          · have HE2 := Lib.hid (show lcheck l n = 1 by rw [HE.out, if_pos (.inl rfl)])
            have HB3 := Lib.hid (show Below w.heap.size w w3 by rw [hq3]; exact below_n HBw.out _)
            clear hq3
            go_wp2_with fail
            go_ret
            exact ⟨by rw [HE2.out]; rfl, HB3.out⟩
        · have HB := Lib.hid h4
          have HE := Lib.hid (show lcheck l n = 1 by rw [lcheck, if_pos (.inr (.inr (.inr h4)))])
          clear h4
          go_enter Tryd.func14, Tryd.ntmps14
          go_wp2_with fail
          refine (lcheck1_any l.B _).mono ?_
          rintro e w2 ⟨rfl, rfl⟩
          rw [HB.out]
          go_wp2_with fail
          go_ret
          exact ⟨by rw [HE.out]; rfl, below2 w _ _⟩
      · have e3 : ((l.C.length : Int) != (l.L.length : Int)) = true := by simp; omega
        have HE := Lib.hid (show lcheck l n = 1 by rw [lcheck, if_pos (.inr (.inr (.inl h3)))])
        clear h3
        go_enter Tryd.func14, Tryd.ntmps14
        go_wp2_with fail
        go_ret
        exact ⟨by rw [HE.out]; rfl, below2 w _ _⟩
theorem right_any (A L : Option Addr) (cA cL : Nat) (l : LinV) (w : World) (h : LinAt w A L l) :
    Calls Tryd.prog 19 #[linV A L cA cL l] w fun e w' => e = .returned (I64 (lcheck l 65536)) ∧ Below w.heap.size w w' := by
  have H := Lib.hid h
  clear h
  go_enter Tryd.func19, Tryd.ntmps19
  go_wp2_with fail
  refine (lcheck_any A L cA cL l 65536 _ (H.out.up (below1 w _))).mono ?_
  rintro e w1 ⟨rfl, b1⟩
  have B1 := Lib.hid (below_up (below1 w _) b1)
  clear b1
  go_wp2_with fail
  go_ret
  exact ⟨rfl, B1.out⟩
end Go.Proofs.YtkkapbnopmmmjaaDoor
