/- Contracts of the adder's small methods one and say, of its two clause closures, of slices.Clone at ints, and of the bit counts: each for every input that its hypotheses name. -/
import Derived.Test.YtogolfneckhnaaaDoorProg
import Derived.Test.YtogolfneckhnaaaDoorMem
import Derived.Test.YtogolfneckhnaaaDoorAdPlain
import Derived.Deep.QuietTactic
import Derived.BigQuiet
import Derived.Lib.Hide
import Derived.Outline
import Derived.KernelRfl
import Derived.Laws.Bits64b
import Derived.Lib.TrailingZeros
namespace Go.Proofs.YtogolfneckhnaaaDoor
open Go.RowKit

theorem info_int : (Tryd.prog.info? 3).map (fun i => (i.zero, i.size, i.bytes)) = some (some (.int .i64 0), 1, 8) := by kernel_rfl
theorem info_ints : (Tryd.prog.info? 22).map (fun i => (i.zero, i.size, i.bytes)) = some (some (.slice none 0 0), 1, 24) := by kernel_rfl

/-- block b holds ints and meets E -/
def T3 (E : Nat → Prop) (w : World) (b : Nat) : Prop := (∃ cur, w.heap[b]? = some (.cells cur 3 (0, 0))) ∧ E b
/-- the slice value v reads as the clause xs, in a block of ints that meets E -/
def Cl (E : Nat → Prop) (w : World) (v : Value) (xs : List Int) : Prop := ∃ A c, v = .slice A xs.length c ∧ xs.length ≤ c ∧ Rd I64 (T3 E w) w A xs
theorem T3.lt {E : Nat → Prop} {w : World} {b : Nat} (h : T3 E w b) : b < w.heap.size := by
  obtain ⟨⟨cur, h⟩, _⟩ := h
  exact (Array.getElem?_eq_some_iff.1 h).1
theorem T3.ne_blk {E : Nat → Prop} {w : World} {b g : Nat} {t : TypeId} {cs : Array Value} (h : T3 E w b) (hg : Blk w g t cs) (ht : t ≠ 3) : b ≠ g := by
  obtain ⟨⟨cur, h⟩, _⟩ := h
  exact Blk.ne_ (t := 3) h hg (Ne.symm ht)
theorem T3.ne_own {E : Nat → Prop} {w : World} {b : Nat} {e : TypeId} {v : Value} {xs : List Value} (h : T3 E w b) (hg : Own w e v xs) (ht : e ≠ 3) : v.ownBlock ≠ some b := by
  obtain ⟨⟨cur, h⟩, _⟩ := h
  exact hg.ne_blk (t := 3) h ht
theorem Cl.kp {E E' M : Nat → Prop} {w w' : World} {v : Value} {xs : List Int} (h : Cl E w v xs) (hk : Kp M w w') (hm : ∀ b, T3 E w b → ¬ M b) (hE : ∀ b, b < w.heap.size → E b → E' b) : Cl E' w' v xs := by
  obtain ⟨A, c, h1, h2, h3⟩ := h
  refine ⟨A, c, h1, h2, h3.keep (fun b hb => hk.block b hb.lt (hm b hb)) (fun b hb => ?_)⟩
  have hlt := hb.lt
  have hb0 := hb
  obtain ⟨⟨cur, hb⟩, he⟩ := hb
  exact ⟨⟨cur, (hk.block b hlt (hm b hb0)).trans hb⟩, hE b hlt he⟩
theorem Cl.mono {E E' : Nat → Prop} {w : World} {v : Value} {xs : List Int} (h : Cl E w v xs) (hE : ∀ b, b < w.heap.size → E b → E' b) : Cl E' w v xs :=
  h.kp (Kp.refl (fun _ => False) w) (fun _ _ h => h) hE
theorem Cl.of_blk {E : Nat → Prop} {w : World} {g : Nat} {xs : List Int} {ys : Array Value} (h : Blk w g 3 ys) (hy : ys = (xs.map I64).toArray) (hE : E g) : Cl E w (.slice (some ⟨g, 0, none⟩) xs.length xs.length) xs := by
  refine ⟨_, _, rfl, Nat.le_refl _, fun _ => ⟨_, _, rfl, ⟨⟨ys, h⟩, hE⟩, fun j hj => ?_⟩⟩
  rw [h.cell, hy]
  simp [hj]

/-- the encoder's struct in block p: its map value, its clause slice cv, its next variable; the clauses read as cs -/
def St (E : Nat → Prop) (w : World) (p : Nat) (mv : Value) (nx : Int) (cv : Value) (cs : List (List Int)) : Prop :=
  ∃ vs, Blk w p 57 #[mv, cv, I64 nx] ∧ Own w 22 cv vs ∧ vs.length = cs.length ∧ ∀ (j : Nat) v xs, vs[j]? = some v → cs[j]? = some xs → Cl E w v xs
/-- from w to w' only block p, the clause slice's row and new blocks have turned -/
def Stp (p : Nat) (w : World) (cv : Value) (w' : World) (cv' : Value) : Prop :=
  Kp (fun k => k = p ∨ cv.ownBlock = some k) w w' ∧ ∀ g, cv'.ownBlock = some g → cv.ownBlock = some g ∨ w.heap.size ≤ g
theorem Stp.refl (p : Nat) (w : World) (cv : Value) : Stp p w cv w cv := ⟨Kp.refl _ _, fun _ h => .inl h⟩
theorem Stp.trans {p : Nat} {w w' w'' : World} {cv cv' cv'' : Value} (h : Stp p w cv w' cv') (h' : Stp p w' cv' w'' cv'') : Stp p w cv w'' cv'' := by
  refine ⟨h.1.trans h'.1 fun k hk hm => ?_, fun g hg => ?_⟩
  · rcases hm with rfl | hm
    · exact .inl rfl
    · rcases h.2 k hm with h2 | h2
      · exact .inr h2
      · omega
  · rcases h'.2 g hg with h2 | h2
    · exact h.2 g h2
    · exact .inr (Nat.le_trans h.1.size h2)
theorem Stp.drewN {p : Nat} {w w' : World} {cv cv' : Value} (h : Stp p w cv w' cv') (n : Nat) : Stp p w cv (w'.drewN n) cv' := ⟨h.1.drewN n, h.2⟩
theorem Stp.alloc {p : Nat} {w w' : World} {cv cv' : Value} (h : Stp p w cv w' cv') (o : Obj) : Stp p w cv (w'.alloc o) cv' := ⟨h.1.alloc o, h.2⟩
theorem Stp.size {p : Nat} {w w' : World} {cv cv' : Value} (h : Stp p w cv w' cv') : w.heap.size ≤ w'.heap.size := h.1.size
theorem St.kp {E E' M : Nat → Prop} {w w' : World} {p : Nat} {mv : Value} {nx : Int} {cv : Value} {cs : List (List Int)} (h : St E w p mv nx cv cs) (hk : Kp M w w') (hp : ¬ M p) (hc : ∀ g, cv.ownBlock = some g → ¬ M g)
    (hm : ∀ b, T3 E w b → ¬ M b) (hE : ∀ b, b < w.heap.size → E b → E' b) : St E' w' p mv nx cv cs := by
  obtain ⟨vs, h1, h2, h3, h4⟩ := h
  exact ⟨vs, h1.kp hk hp, h2.kp hk hc, h3, fun j v xs hv hx => (h4 j v xs hv hx).kp hk hm hE⟩
theorem St.alloc {E : Nat → Prop} {w : World} {p : Nat} {mv : Value} {nx : Int} {cv : Value} {cs : List (List Int)} (h : St E w p mv nx cv cs) (o : Obj) : St E (w.alloc o) p mv nx cv cs :=
  h.kp ((Kp.refl (fun _ => False) w).alloc o) (fun h => h) (fun _ _ h => h) (fun _ _ h => h) (fun _ _ h => h)
theorem St.drewN {E : Nat → Prop} {w : World} {p : Nat} {mv : Value} {nx : Int} {cv : Value} {cs : List (List Int)} (h : St E w p mv nx cv cs) (n : Nat) : St E (w.drewN n) p mv nx cv cs :=
  h.kp ((Kp.refl (fun _ => False) w).drewN n) (fun h => h) (fun _ _ h => h) (fun _ _ h => h) (fun _ _ h => h)
theorem Blk.stp {w w' : World} {g p : Nat} {t : TypeId} {ys : Array Value} {cv cv' : Value} {vs : List Value} (h : Blk w g t ys) (hs : Stp p w cv w' cv') (hp : g ≠ p) (ho : Own w 22 cv vs) (ht : t ≠ 22) : Blk w' g t ys :=
  h.kp hs.1 (fun hm => by rcases hm with hm | hm; · exact hp hm
                          · exact ho.ne_blk h (Ne.symm ht) hm)

set_option maxHeartbeats 400000 in
theorem one_any (p : Nat) (mv cv : Value) (nx : Int) (w : World) (hp : Blk w p 57 #[mv, cv, I64 nx]) (h0 : 0 ≤ nx) (h1 : nx ≤ 1000000000) :
    Calls Tryd.prog 63 #[.pointer (some ⟨p, 0, none⟩)] w fun e w' => e = .returned (I64 nx) ∧ w' = w.setCell ⟨p, 2, none⟩ (I64 (nx + 1)) := by
  have c2 := hp.cell 2
  have f2 := hp.frozen 2
  simp only [List.getElem?_toArray, List.getElem?_cons_succ, List.getElem?_cons_zero] at c2
  have HP := Lib.hid hp
  clear hp
  go_enter Tryd.func63, Tryd.ntmps63
  go_wp2
  go_ret
  exact ⟨by simp, rfl⟩

set_option maxHeartbeats 400000 in
theorem say_own (p : Nat) (mv cv : Value) (nx : Int) (A : Option Addr) (n c : Nat) (vs : List Value) (w : World) (hp : Blk w p 57 #[mv, cv, I64 nx]) (hown : Own w 22 cv vs) (hn : vs.length < 1000000000000) :
    Calls Tryd.prog 66 #[.pointer (some ⟨p, 0, none⟩), .slice A n c] w fun e w' => e = .returned (.tuple #[]) ∧ ∃ cv', Blk w' p 57 #[mv, cv', I64 nx] ∧ Own w' 22 cv' (vs ++ [.slice A n c]) ∧
      Stp p w cv w' cv' := by
  obtain ⟨i0, hi, hz0, hz1, hz2⟩ := info_parts info_ints
  have c1 := hp.cell 1
  have hlt := hp.lt
  have hpne := hown.ne_blk hp (by decide)
  simp only [List.getElem?_toArray, List.getElem?_cons_succ, List.getElem?_cons_zero] at c1
  have HP := Lib.hid hp
  have HO := Lib.hid hown
  have HN := Lib.hid hpne
  have HI := Lib.hid (And.intro hi (And.intro hz0 (And.intro hz1 hz2)))
  clear hp hown hpne hi hz0 hz1 hz2
  go_enter Tryd.func66, Tryd.ntmps66
  go_wp2_with (at_builtin; refine wpList_push _ rfl _ _ 24 rfl 22 i0 (.slice none 0 0) 24 Tryd.underlying24 HI.out.1 HI.out.2.1 HI.out.2.2.1 HI.out.2.2.2 rfl _ vs vs.length rfl rfl (HO.out.alloc _) ⟨w.heap.size, 0, none⟩ 1 (.slice A n c) rfl ?c1 rfl ?c2 ?c3 ?_)
  case c1 => simp
  case c2 => unfold maxLen; omega
  case c3 => omega
  intro g off cap w1 hown1 hg1 hat
  have hp1 : Blk w1 p 57 #[mv, cv, I64 nx] := (HP.out.alloc _).grown hg1 (fun e => HN.out e.symm)
  have c1' := hp1.cell 1
  have f1' := hp1.frozen 1
  simp only [List.getElem?_toArray, List.getElem?_cons_succ, List.getElem?_cons_zero] at c1'
  have HP1 := Lib.hid hp1
  have HO1 := Lib.hid hown1
  have HG1 := Lib.hid hg1
  have HA := Lib.hid hat
  clear hp1 hown1 hg1 hat
  go_wp2
  go_end0
  refine ⟨rfl, .slice (some ⟨g, off, none⟩) (vs.length + 1) cap, ?_, ?_, ?_, ?_⟩
  · simpa using HP1.out.set_ 1 (.slice (some ⟨g, off, none⟩) (vs.length + 1) cap)
  · exact HO1.out.far (HO1.out.ne_blk HP1.out (by decide)) _
  · exact (((Kp.refl _ w).alloc _).grown HG1.out (fun g' e _ => .inr e)).setCell (fun _ => .inl rfl) _
  · intro g' hg'
    have : g = g' := by simpa [Value.ownBlock] using hg'
    subst this
    rcases HA.out with h | h
    · exact .inl h
    · right; rw [h]; simp

theorem say_any {E : Nat → Prop} (p : Nat) (mv cv lv : Value) (nx : Int) (xs : List Int) (cs : List (List Int)) (w : World) (h : St E w p mv nx cv cs) (hl : Cl E w lv xs) (hn : cs.length < 1000000000000) :
    Calls Tryd.prog 66 #[.pointer (some ⟨p, 0, none⟩), lv] w fun e w' => e = .returned (.tuple #[]) ∧ ∃ cv', St E w' p mv nx cv' (cs ++ [xs]) ∧ Stp p w cv w' cv' := by
  obtain ⟨vs, h1, h2, h3, h4⟩ := h
  have hl0 := hl
  obtain ⟨A, c, rfl, hc, hr⟩ := hl
  refine (say_own p mv cv nx A _ c vs w h1 h2 (by omega)).mono ?_
  rintro e w' ⟨he, cv', g1, g2, g3⟩
  have hm : ∀ b, T3 E w b → ¬ (b = p ∨ cv.ownBlock = some b) := fun b hb hm => by
    rcases hm with hm | hm
    · exact hb.ne_blk h1 (by decide) hm
    · exact hb.ne_own h2 (by decide) hm
  refine ⟨he, cv', ⟨_, g1, g2, by simp [h3], fun j v ys hv hy => ?_⟩, g3⟩
  rw [List.getElem?_append] at hv hy
  rw [h3] at hv
  by_cases hj : j < cs.length
  · rw [if_pos hj] at hv hy
    exact (h4 j v ys hv hy).kp g3.1 hm (fun _ _ h => h)
  · rw [if_neg hj] at hv hy
    have : j - cs.length = 0 := by
      rcases Nat.eq_zero_or_pos (j - cs.length) with h | h
      · exact h
      · rw [List.getElem?_eq_none (by simp; omega)] at hv; cases hv
    rw [this] at hv hy
    simp at hv hy
    subst hv hy
    exact hl0.kp g3.1 hm (fun _ _ h => h)

set_option maxHeartbeats 400000 in
theorem add2_any {E : Nat → Prop} (p bw bc : Nat) (mv cv : Value) (nx x y c : Int) (cs : List (List Int)) (w : World) (h : St E w p mv nx cv cs) (hE : ∀ b, w.heap.size ≤ b → E b) (hn : cs.length < 1000000000000)
    (hw : Blk w bw 54 #[.pointer (some ⟨p, 0, none⟩)]) (hc : Blk w bc 3 #[I64 c]) (hx : -1000000000 ≤ x) (hx' : x ≤ 1000000000) (hy : -1000000000 ≤ y) (hy' : y ≤ 1000000000) :
    Calls Tryd.prog 68 #[I64 x, I64 y, .pointer (some ⟨bw, 0, none⟩), .pointer (some ⟨bc, 0, none⟩)] w fun e w' => e = .returned (.tuple #[]) ∧ ∃ cv', St E w' p mv nx cv' (cs ++ [[-x, -y, c]]) ∧ Stp p w cv w' cv' := by
  have c1 := hw.cell 0
  have c2 := hc.cell 0
  simp only [List.getElem?_toArray, List.getElem?_cons_zero] at c1 c2
  have HS := Lib.hid h
  have HE := Lib.hid hE
  clear h hw hc hE
  go_enter Tryd.func68, Tryd.ntmps68
  go_wp2_with fail
  have hcl : Cl E (w.alloc (.cells #[I64 (-x), I64 (-y), I64 c] 3)) (.slice (some ⟨w.heap.size, 0, none⟩) 3 3) [-x, -y, c] := Cl.of_blk (xs := [-x, -y, c]) (Blk.new w _ _) rfl (HE.out _ (Nat.le_refl _))
  refine (say_any p mv cv _ nx [-x, -y, c] cs _ (HS.out.alloc _) hcl hn).mono ?_
  rintro e w1 ⟨rfl, cv', s1, s2⟩
  have HS1 := Lib.hid s1
  have HS2 := Lib.hid s2
  clear s1 s2 hcl
  go_wp2_with fail
  go_end0
  exact ⟨rfl, cv', HS1.out, ((Stp.refl p w cv).alloc _).trans HS2.out⟩

set_option maxHeartbeats 400000 in
theorem add3_any {E : Nat → Prop} (p bw bc : Nat) (mv cv : Value) (nx x y c : Int) (cs : List (List Int)) (w : World) (h : St E w p mv nx cv cs) (hE : ∀ b, w.heap.size ≤ b → E b) (hn : cs.length < 1000000000000)
    (hw : Blk w bw 54 #[.pointer (some ⟨p, 0, none⟩)]) (hc : Blk w bc 3 #[I64 c]) (hx : -1000000000 ≤ c) (hx' : c ≤ 1000000000) :
    Calls Tryd.prog 69 #[I64 x, I64 y, .pointer (some ⟨bw, 0, none⟩), .pointer (some ⟨bc, 0, none⟩)] w fun e w' => e = .returned (.tuple #[]) ∧ ∃ cv', St E w' p mv nx cv' (cs ++ [[x, y, -c]]) ∧ Stp p w cv w' cv' := by
  have c1 := hw.cell 0
  have c2 := hc.cell 0
  simp only [List.getElem?_toArray, List.getElem?_cons_zero] at c1 c2
  have HS := Lib.hid h
  have HE := Lib.hid hE
  clear h hw hc hE
  go_enter Tryd.func69, Tryd.ntmps69
  go_wp2_with fail
  have hcl : Cl E (w.alloc (.cells #[I64 x, I64 y, I64 (-c)] 3)) (.slice (some ⟨w.heap.size, 0, none⟩) 3 3) [x, y, -c] := Cl.of_blk (xs := [x, y, -c]) (Blk.new w _ _) rfl (HE.out _ (Nat.le_refl _))
  refine (say_any p mv cv _ nx [x, y, -c] cs _ (HS.out.alloc _) hcl hn).mono ?_
  rintro e w1 ⟨rfl, cv', s1, s2⟩
  have HS1 := Lib.hid s1
  have HS2 := Lib.hid s2
  clear s1 s2 hcl
  go_wp2_with fail
  go_end0
  exact ⟨rfl, cv', HS1.out, ((Stp.refl p w cv).alloc _).trans HS2.out⟩
end Go.Proofs.YtogolfneckhnaaaDoor
