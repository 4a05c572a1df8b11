/- Contract of the builder's put. (The region's walk is printed by kreg.py.) -/
import Derived.Test.YtibfgeoiemmjoaaLinK
import Derived.Test.YtibfgeoiemmjoaaKOrd
namespace Go.Proofs.Ytibfgeoiemmjoaa
open Go.RowKit Go.Shelf
attribute [local go_sem ↓] Go.wp_at_zero Go.wp_at_succ

/-- the builder at block p, whose cells hold x0 and x1; cv and lv: the coefficients' and literals' slices, each in a block of its own from B on -/
structure Bldx (B : Nat) (wo w : World) (p : Nat) (x0 x1 cv lv : Value) (C L : List Int) (b : Int) : Prop where
  k : Kp (fun k => k = p ∨ B ≤ k) wo w
  blk : Blk w p 55 #[x0, x1, I64 b]
  c : Own w 3 cv (C.map I64)
  l : Own w 3 lv (L.map I64)
  apart : ∀ g, cv.ownBlock = some g → lv.ownBlock ≠ some g
  wB : B ≤ w.heap.size
  cB : ∀ g, cv.ownBlock = some g → B ≤ g
  lB : ∀ g, lv.ownBlock = some g → B ≤ g
section
variable {B : Nat} {wo w w' : World} {p : Nat} {x0 x1 cv lv : Value} {C L : List Int} {b : Int}
theorem Bldx.c_ne (h : Bldx B wo w p x0 x1 cv lv C L b) : cv.ownBlock ≠ some p := h.c.ne_blk h.blk (by decide)
theorem Bldx.l_ne (h : Bldx B wo w p x0 x1 cv lv C L b) : lv.ownBlock ≠ some p := h.l.ne_blk h.blk (by decide)
theorem Bldx.s (h : Bldx B wo w p x0 x1 cv lv C L b) : w.cell? ⟨p, 0, none⟩ = some x0 ∧ w.cell? ⟨p, 1, none⟩ = some x1 := ⟨h.blk.cell 0, h.blk.cell 1⟩
theorem Bldx.drew (h : Bldx B wo w p x0 x1 cv lv C L b) : Bldx B wo w.drew p x0 x1 cv lv C L b := ⟨h.k.drew, h.blk, h.c, h.l, h.apart, h.wB, h.cB, h.lB⟩
theorem Bldx.drewN (h : Bldx B wo w p x0 x1 cv lv C L b) (n : Nat) : Bldx B wo (w.drewN n) p x0 x1 cv lv C L b := ⟨h.k.drewN n, h.blk, h.c, h.l, h.apart, h.wB, h.cB, h.lB⟩
theorem Bldx.alloc (h : Bldx B wo w p x0 x1 cv lv C L b) (o : Obj) : Bldx B wo (w.alloc o) p x0 x1 cv lv C L b := ⟨h.k.alloc o, h.blk.alloc o, h.c.alloc o, h.l.alloc o, h.apart, Nat.le_trans h.wB (by simp), h.cB, h.lB⟩
theorem Bldx.below (h : Bldx B wo w p x0 x1 cv lv C L b) (hb : Below w.heap.size w w') : Bldx B wo w' p x0 x1 cv lv C L b :=
  ⟨h.k.trans (Kp.of_below hb) (fun k hk hm => absurd hm (by have := h.k.size; omega)), (hb.block p h.blk.lt).trans h.blk, h.c.keep fun g hg => hb.block g (h.c.lt hg), h.l.keep fun g hg => hb.block g (h.l.lt hg), h.apart, Nat.le_trans h.wB hb.size, h.cB, h.lB⟩
theorem Bldx.pushC (h : Bldx B wo w p x0 x1 cv lv C L b) {g off n cap : Nat} {c : Int} (ho : Own w' 3 (.slice (some ⟨g, off, none⟩) n cap) (C.map I64 ++ [I64 c])) (hg : w.grownBy w' cv.ownBlock)
    (hat : cv.ownBlock = some g ∨ g = w.heap.size) : Bldx B wo w' p x0 x1 (.slice (some ⟨g, off, none⟩) n cap) lv (C ++ [c]) L b := by
  have hB := h.wB
  have hne : ∀ g, lv.ownBlock = some g → cv.ownBlock ≠ some g := fun g h1 h2 => h.apart g h2 h1
  refine ⟨h.k.grown hg (fun g e _ => .inr (h.cB g e)), h.blk.grown hg (Ne.symm h.c_ne), by simpa using ho, h.l.grown hg ?_, ?_, Nat.le_trans hB hg.size, ?_, h.lB⟩
  · cases hl : lv.ownBlock with
    | none => exact .inl rfl
    | some x => exact .inr (fun e => hne x hl e.symm)
  · intro g' hg' hl
    simp [Value.ownBlock] at hg'
    subst hg'
    rcases hat with h1 | h1
    · exact h.apart g h1 hl
    · have := h.l.lt hl
      omega
  · intro g' hg'
    simp [Value.ownBlock] at hg'
    subst hg'
    rcases hat with h1 | h1
    · exact h.cB g h1
    · omega
theorem Bldx.pushL (h : Bldx B wo w p x0 x1 cv lv C L b) {g off n cap : Nat} {c : Int} (ho : Own w' 3 (.slice (some ⟨g, off, none⟩) n cap) (L.map I64 ++ [I64 c])) (hg : w.grownBy w' lv.ownBlock)
    (hat : lv.ownBlock = some g ∨ g = w.heap.size) : Bldx B wo w' p x0 x1 cv (.slice (some ⟨g, off, none⟩) n cap) C (L ++ [c]) b := by
  have hB := h.wB
  refine ⟨h.k.grown hg (fun g e _ => .inr (h.lB g e)), h.blk.grown hg (Ne.symm h.l_ne), h.c.grown hg ?_, by simpa using ho, ?_, Nat.le_trans hB hg.size, h.cB, ?_⟩
  · cases hl : cv.ownBlock with
    | none => exact .inl rfl
    | some x => exact .inr (fun e => h.apart x hl e.symm)
  · intro g' hg' hl
    simp [Value.ownBlock] at hl
    subst hl
    rcases hat with h1 | h1
    · exact h.apart g hg' h1
    · have := h.c.lt hg'
      omega
  · intro g' hg'
    simp [Value.ownBlock] at hg'
    subst hg'
    rcases hat with h1 | h1
    · exact h.lB g h1
    · omega
theorem Bldx.set0 (h : Bldx B wo w p x0 x1 cv lv C L b) (u : Value) : Bldx B wo (w.setCell ⟨p, 0, none⟩ u) p u x1 cv lv C L b :=
  ⟨h.k.setCell (fun _ => .inl rfl) _, h.blk.set_ 0 u, h.c.far h.c_ne u, h.l.far h.l_ne u, h.apart, by simpa [World.setCell] using h.wB, h.cB, h.lB⟩
theorem Bldx.set1 (h : Bldx B wo w p x0 x1 cv lv C L b) (u : Value) : Bldx B wo (w.setCell ⟨p, 1, none⟩ u) p x0 u cv lv C L b :=
  ⟨h.k.setCell (fun _ => .inl rfl) _, h.blk.set_ 1 u, h.c.far h.c_ne u, h.l.far h.l_ne u, h.apart, by simpa [World.setCell] using h.wB, h.cB, h.lB⟩
theorem Bldx.set2 (h : Bldx B wo w p x0 x1 cv lv C L b) (u : Int) : Bldx B wo (w.setCell ⟨p, 2, none⟩ (I64 u)) p x0 x1 cv lv C L u :=
  ⟨h.k.setCell (fun _ => .inl rfl) _, h.blk.set_ 2 _, h.c.far h.c_ne _, h.l.far h.l_ne _, h.apart, by simpa [World.setCell] using h.wB, h.cB, h.lB⟩
end
abbrev Bld (B : Nat) (wo w : World) (p : Nat) (cv lv : Value) (C L : List Int) (b : Int) : Prop := Bldx B wo w p cv lv cv lv C L b

set_option maxRecDepth 100000 in
set_option maxHeartbeats 6400000 in
theorem lput_any (B p : Nat) (cv lv : Value) (C L : List Int) (b c x : Int) (wo w : World) (h : Bld B wo w p cv lv C L b) (hl1 : C.length ≤ 1000000) (hl2 : L.length ≤ 1000000) :
    Calls Try.prog 41 #[.pointer (some ⟨p, 0, none⟩), I64 c, I64 x] w fun e w' => e = .returned (.tuple #[]) ∧ ∃ cv' lv', Bld B wo w' p cv' lv' (C ++ [c]) (L ++ [x]) b := by
  obtain ⟨i0, hi, hz0, hz1, hz2⟩ := info_parts info_int
  have HI := Lib.hid (And.intro hi (And.intro hz0 (And.intro hz1 hz2)))
  have H := Lib.hid h
  have HB0 := Lib.hid h.drew
  have HL1 := Lib.hid (show (C.map I64).length = C.length by simp)
  have HL2 := Lib.hid (show (L.map I64).length = L.length by simp)
  have hS := h.drew.s
  clear h hi hz0 hz1 hz2
  go_enter Try.func41, Try.ntmps41
  go_wp2_with fail
  refine wp_region_noPanic ?_
  refine wp_region_K (k := 21) (S := fun w' => w'.cell? ⟨p, 0, none⟩ = some cv ∧ w'.cell? ⟨p, 1, none⟩ = some lv) (by kernel_rfl) ?_
  refine wpAnyK_pure (i := 0) (v := ?_) (by simp only [List.getElem?_toArray, List.getElem?_cons_zero]; rfl) (by kernel_rfl) (by kernel_rfl) (by kernel_rfl) rfl (fun _ _ _ h => h) (Or.inl ⟨by rfl, ?_⟩) (fun _ => hS) ?_
  rotate_left
  · intro w hSw; clear hSw; go_simp; try (with_reducible rfl)
  (try simp only [Act.put, List.setIfInBounds_toArray, List.set_cons_zero, List.set_cons_succ])
  refine wpAnyK_pure (i := 1) (v := ?_) (by simp only [List.getElem?_toArray, List.getElem?_cons_succ, List.getElem?_cons_zero]; rfl) (by kernel_rfl) (by kernel_rfl) (by kernel_rfl) rfl (fun _ _ _ h => h) (Or.inl ⟨by rfl, ?_⟩) (fun _ => hS) ?_
  rotate_left
  · intro w hSw; clear hSw; go_simp; try (with_reducible rfl)
  (try simp only [Act.put, List.setIfInBounds_toArray, List.set_cons_zero, List.set_cons_succ])
  refine wpAnyK_pure (i := 2) (v := ?_) (by simp only [List.getElem?_toArray, List.getElem?_cons_succ, List.getElem?_cons_zero]; rfl) (by kernel_rfl) (by kernel_rfl) (by kernel_rfl) rfl (fun _ _ _ h => h) (Or.inl ⟨by rfl, ?_⟩) (fun _ => hS) ?_
  rotate_left
  · intro w hSw; clear hSw; go_simp; try (with_reducible rfl)
  (try simp only [Act.put, List.setIfInBounds_toArray, List.set_cons_zero, List.set_cons_succ])
  refine wpAnyK_pure (i := 3) (v := ?_) (by simp only [List.getElem?_toArray, List.getElem?_cons_succ, List.getElem?_cons_zero]; rfl) (by kernel_rfl) (by kernel_rfl) (by kernel_rfl) rfl (fun _ _ _ h => h) (Or.inl ⟨by rfl, ?_⟩) (fun _ => hS) ?_
  rotate_left
  · intro w hSw; clear hSw; go_simp; try (with_reducible rfl)
  (try simp only [Act.put, List.setIfInBounds_toArray, List.set_cons_zero, List.set_cons_succ])
  refine wpAnyK_pure (i := 4) (v := ?_) (by simp only [List.getElem?_toArray, List.getElem?_cons_succ, List.getElem?_cons_zero]; rfl) (by kernel_rfl) (by kernel_rfl) (by kernel_rfl) rfl (fun _ _ _ h => h) (Or.inl ⟨by rfl, ?_⟩) (fun _ => hS) ?_
  rotate_left
  · intro w hSw; clear hSw; go_simp; try (with_reducible rfl)
  (try simp only [Act.put, List.setIfInBounds_toArray, List.set_cons_zero, List.set_cons_succ])
  refine wpAnyK_pure (i := 5) (v := ?_) (by simp only [List.getElem?_toArray, List.getElem?_cons_succ, List.getElem?_cons_zero]; rfl) (by kernel_rfl) (by kernel_rfl) (by kernel_rfl) rfl (fun _ _ _ h => h) (Or.inl ⟨by rfl, ?_⟩) (fun _ => hS) ?_
  rotate_left
  · intro w hSw; clear hSw; go_simp; try (with_reducible rfl)
  (try simp only [Act.put, List.setIfInBounds_toArray, List.set_cons_zero, List.set_cons_succ])
  refine wpAnyK_pure (i := 7) (v := ?_) (by simp only [List.getElem?_toArray, List.getElem?_cons_succ, List.getElem?_cons_zero]; rfl) (by kernel_rfl) (by kernel_rfl) (by kernel_rfl) rfl (fun _ _ _ h => h) (Or.inl ⟨by rfl, ?_⟩) (fun _ => hS) ?_
  rotate_left
  · intro w hSw; clear hSw; go_simp; try (with_reducible rfl)
  (try simp only [Act.put, List.setIfInBounds_toArray, List.set_cons_zero, List.set_cons_succ])
  refine wpAnyK_pure (i := 10) (v := ?_) (by simp only [List.getElem?_toArray, List.getElem?_cons_succ, List.getElem?_cons_zero]; rfl) (by kernel_rfl) (by kernel_rfl) (by kernel_rfl) rfl (fun _ _ _ h => h) (Or.inl ⟨by rfl, ?_⟩) (fun _ => hS) ?_
  rotate_left
  · intro w hSw; clear hSw; go_simp; try (with_reducible rfl)
  (try simp only [Act.put, List.setIfInBounds_toArray, List.set_cons_zero, List.set_cons_succ])
  refine wpAnyK_pure (i := 11) (v := ?_) (by simp only [List.getElem?_toArray, List.getElem?_cons_succ, List.getElem?_cons_zero]; rfl) (by kernel_rfl) (by kernel_rfl) (by kernel_rfl) rfl (fun _ _ _ h => h) (Or.inl ⟨by rfl, ?_⟩) (fun _ => hS) ?_
  rotate_left
  · intro w hSw; clear hSw; go_simp; try (with_reducible rfl)
  (try simp only [Act.put, List.setIfInBounds_toArray, List.set_cons_zero, List.set_cons_succ])
  refine wpAnyK_pure (i := 12) (v := ?_) (by simp only [List.getElem?_toArray, List.getElem?_cons_succ, List.getElem?_cons_zero]; rfl) (by kernel_rfl) (by kernel_rfl) (by kernel_rfl) rfl (fun _ _ _ h => h) (Or.inl ⟨by rfl, ?_⟩) (fun _ => hS) ?_
  rotate_left
  · intro w hSw; clear hSw; go_simp; try (with_reducible rfl)
  (try simp only [Act.put, List.setIfInBounds_toArray, List.set_cons_zero, List.set_cons_succ])
  refine wpAnyK_pure (i := 13) (v := ?_) (by simp only [List.getElem?_toArray, List.getElem?_cons_succ, List.getElem?_cons_zero]; rfl) (by kernel_rfl) (by kernel_rfl) (by kernel_rfl) rfl (fun _ _ _ h => h) (Or.inl ⟨by rfl, ?_⟩) (fun _ => hS) ?_
  rotate_left
  · intro w hSw; clear hSw; go_simp; try (with_reducible rfl)
  (try simp only [Act.put, List.setIfInBounds_toArray, List.set_cons_zero, List.set_cons_succ])
  refine wpAnyK_pure (i := 15) (v := ?_) (by simp only [List.getElem?_toArray, List.getElem?_cons_succ, List.getElem?_cons_zero]; rfl) (by kernel_rfl) (by kernel_rfl) (by kernel_rfl) rfl (fun _ _ _ h => h) (Or.inl ⟨by rfl, ?_⟩) (fun _ => hS) ?_
  rotate_left
  · intro w hSw; clear hSw; go_simp; try (with_reducible rfl)
  (try simp only [Act.put, List.setIfInBounds_toArray, List.set_cons_zero, List.set_cons_succ])
  refine wpAnyK_take (i := 6) (v := ?_) (by simp only [List.getElem?_toArray, List.getElem?_cons_succ, List.getElem?_cons_zero]; rfl) (by kernel_rfl) (by kernel_rfl) (by kernel_rfl) rfl (by kernel_rfl) (by kernel_rfl) (fun _ _ _ h => h) (Or.inl ⟨by rfl, ?_⟩) hS ?_
  rotate_left
  · intro w hSw; (try dsimp only at hSw); go_simp; try (with_reducible rfl)
  (try simp only [Act.put, List.setIfInBounds_toArray, List.set_cons_zero, List.set_cons_succ])
  refine wpAnyK_take (i := 14) (v := ?_) (by simp only [List.getElem?_toArray, List.getElem?_cons_succ, List.getElem?_cons_zero]; rfl) (by kernel_rfl) (by kernel_rfl) (by kernel_rfl) rfl (by kernel_rfl) (by kernel_rfl) (fun _ _ _ h => h) (Or.inl ⟨by rfl, ?_⟩) hS ?_
  rotate_left
  · intro w hSw; (try dsimp only at hSw); go_simp; try (with_reducible rfl)
  (try simp only [Act.put, List.setIfInBounds_toArray, List.set_cons_zero, List.set_cons_succ])
  refine wpAnyK_ready (rs := [8, 16]) (by kernel_rfl) (by simp) ?_
  refine AllReadyK.cons (by simp only [List.getElem?_toArray, List.getElem?_cons_succ, List.getElem?_cons_zero]; rfl) (fun K hK => ?_) ?_
  · go_simp
    have N1 := Lib.hid (show Blk ((w.drew).alloc (.cells #[I64 c] 3)) (w.heap.size) 3 #[I64 c] from by have := Blk.new (w.drew) 3 #[I64 c]; simpa using this)
    have HB1 := Lib.hid (HB0.out.alloc (.cells #[I64 c] 3))
    have hS := HB1.out.s
    refine hK.out _ _ hS (fun _ => ?_)
    clear hK K
    (try simp only [Act.put, List.setIfInBounds_toArray, List.set_cons_zero, List.set_cons_succ])
    refine wpAnyK_ready (rs := [9, 16]) (by kernel_rfl) (by simp) ?_
    refine AllReadyK.cons (by simp only [List.getElem?_toArray, List.getElem?_cons_succ, List.getElem?_cons_zero]; rfl) (fun K hK => ?_) ?_
    · refine step_push ((w.drew).alloc (.cells #[I64 c] 3)) (by rfl) (.tmp 12) (.tmp 14) _ (by rfl) 3 i0 _ 8 Try.underlying22 HI.out.1 HI.out.2.1 HI.out.2.2.1 HI.out.2.2.2 rfl _ (C.map I64) C.length HL1.out (by rfl) HB1.out.c _ 1 (I64 c) (by rfl) (by first | exact N1.out.cell 0 | simpa using N1.out.cell 0) rfl (by simp [maxLen]; omega) (by omega) ?_
      intro gC oC capC wC hownC hgC hatC
      have HB2 := Lib.hid (HB1.out.pushC hownC hgC hatC)
      have hS := HB2.out.s
      clear hownC hgC hatC
      refine hK.out _ _ hS (fun _ => ?_)
      clear hK K
      (try simp only [Act.put, List.setIfInBounds_toArray, List.set_cons_zero, List.set_cons_succ])
      refine wpAnyK_ready (rs := [16]) (by kernel_rfl) (by simp) ?_
      refine AllReadyK.cons (by simp only [List.getElem?_toArray, List.getElem?_cons_succ, List.getElem?_cons_zero]; rfl) (fun K hK => ?_) ?_
      · go_simp
        have N2 := Lib.hid (show Blk (wC.alloc (.cells #[I64 x] 3)) (wC.heap.size) 3 #[I64 x] from by have := Blk.new wC 3 #[I64 x]; simpa using this)
        have HB3 := Lib.hid (HB2.out.alloc (.cells #[I64 x] 3))
        have hS := HB3.out.s
        refine hK.out _ _ hS (fun _ => ?_)
        clear hK K
        (try simp only [Act.put, List.setIfInBounds_toArray, List.set_cons_zero, List.set_cons_succ])
        refine wpAnyK_ready (rs := [17]) (by kernel_rfl) (by simp) ?_
        refine AllReadyK.cons (by simp only [List.getElem?_toArray, List.getElem?_cons_succ, List.getElem?_cons_zero]; rfl) (fun K hK => ?_) ?_
        · refine step_push (wC.alloc (.cells #[I64 x] 3)) (by rfl) (.tmp 20) (.tmp 22) _ (by rfl) 3 i0 _ 8 Try.underlying22 HI.out.1 HI.out.2.1 HI.out.2.2.1 HI.out.2.2.2 rfl _ (L.map I64) L.length HL2.out (by rfl) HB3.out.l _ 1 (I64 x) (by rfl) (by first | exact N2.out.cell 0 | simpa using N2.out.cell 0) rfl (by simp [maxLen]; omega) (by omega) ?_
          intro gL oL capL wL hownL hgL hatL
          have HB4 := Lib.hid (HB3.out.pushL hownL hgL hatL)
          have hS := HB4.out.s
          clear hownL hgL hatL
          refine hK.out _ _ hS (fun _ => ?_)
          clear hK K
          (try simp only [Act.put, List.setIfInBounds_toArray, List.set_cons_zero, List.set_cons_succ])
          refine wpAnyK_pure (i := 18) (v := ?_) (by simp only [List.getElem?_toArray, List.getElem?_cons_succ, List.getElem?_cons_zero]; rfl) (by kernel_rfl) (by kernel_rfl) (by kernel_rfl) rfl (fun _ _ _ h => h) (Or.inl ⟨by rfl, ?_⟩) (fun _ => hS) ?_
          rotate_left
          · intro w hSw; clear hSw; go_simp; try (with_reducible rfl)
          (try simp only [Act.put, List.setIfInBounds_toArray, List.set_cons_zero, List.set_cons_succ])
          refine wpAnyK_pure (i := 19) (v := ?_) (by simp only [List.getElem?_toArray, List.getElem?_cons_succ, List.getElem?_cons_zero]; rfl) (by kernel_rfl) (by kernel_rfl) (by kernel_rfl) rfl (fun _ _ _ h => h) (Or.inl ⟨by rfl, ?_⟩) (fun _ => hS) ?_
          rotate_left
          · intro w hSw; clear hSw; go_simp; try (with_reducible rfl)
          (try simp only [Act.put, List.setIfInBounds_toArray, List.set_cons_zero, List.set_cons_succ])
          refine wpAnyK_pure (i := 20) (v := ?_) (by simp only [List.getElem?_toArray, List.getElem?_cons_succ, List.getElem?_cons_zero]; rfl) (by kernel_rfl) (by kernel_rfl) (by kernel_rfl) rfl (fun _ _ _ h => h) (Or.inl ⟨by rfl, ?_⟩) (fun _ => hS) ?_
          rotate_left
          · intro w hSw; clear hSw; go_simp; try (with_reducible rfl)
          (try simp only [Act.put, List.setIfInBounds_toArray, List.set_cons_zero, List.set_cons_succ])
          refine wpAnyK_ready (rs := [21]) (by kernel_rfl) (by simp) ?_
          refine AllReadyK.late (by simp only [List.getElem?_toArray, List.getElem?_cons_succ, List.getElem?_cons_zero]; rfl) (by kernel_rfl) (fun K hK => ?_) ?_
          · have f0 : wL.frozen? ⟨p, 0, none⟩ = false := HB4.out.blk.frozen 0
            have d0 := HB4.out.s.1
            go_simp
            have HB5 := Lib.hid (HB4.out.set0 (.slice (some ⟨gC, oC, none⟩) (C.length + 1) capC))
            refine hK.out _ _ ?_
            clear hK K
            (try simp only [Act.put, List.setIfInBounds_toArray, List.set_cons_zero, List.set_cons_succ])
            refine wpAnyK_pure (i := 22) (v := ?_) (by simp only [List.getElem?_toArray, List.getElem?_cons_succ, List.getElem?_cons_zero]; rfl) (by kernel_rfl) (by kernel_rfl) (by kernel_rfl) rfl (fun _ _ _ h => h) (Or.inl ⟨by rfl, ?_⟩) (by intro h0; cases h0) ?_
            rotate_left
            · intro w hSw; clear hSw; go_simp; try (with_reducible rfl)
            (try simp only [Act.put, List.setIfInBounds_toArray, List.set_cons_zero, List.set_cons_succ])
            refine wpAnyK_pure (i := 23) (v := ?_) (by simp only [List.getElem?_toArray, List.getElem?_cons_succ, List.getElem?_cons_zero]; rfl) (by kernel_rfl) (by kernel_rfl) (by kernel_rfl) rfl (fun _ _ _ h => h) (Or.inl ⟨by rfl, ?_⟩) (by intro h0; cases h0) ?_
            rotate_left
            · intro w hSw; clear hSw; go_simp; try (with_reducible rfl)
            (try simp only [Act.put, List.setIfInBounds_toArray, List.set_cons_zero, List.set_cons_succ])
            refine wpAnyK_pure (i := 24) (v := ?_) (by simp only [List.getElem?_toArray, List.getElem?_cons_succ, List.getElem?_cons_zero]; rfl) (by kernel_rfl) (by kernel_rfl) (by kernel_rfl) rfl (fun _ _ _ h => h) (Or.inl ⟨by rfl, ?_⟩) (by intro h0; cases h0) ?_
            rotate_left
            · intro w hSw; clear hSw; go_simp; try (with_reducible rfl)
            (try simp only [Act.put, List.setIfInBounds_toArray, List.set_cons_zero, List.set_cons_succ])
            refine wpAnyK_ready (rs := [25]) (by kernel_rfl) (by simp) ?_
            refine AllReadyK.late (by simp only [List.getElem?_toArray, List.getElem?_cons_succ, List.getElem?_cons_zero]; rfl) (by kernel_rfl) (fun K hK => ?_) ?_
            · have f1 := HB4.out.blk.frozen 1
              have d1 := HB4.out.s.2
              go_simp
              have HB6 := Lib.hid (HB5.out.set1 (.slice (some ⟨gL, oL, none⟩) (L.length + 1) capL))
              refine hK.out _ _ ?_
              clear hK K
              (try simp only [Act.put, List.setIfInBounds_toArray, List.set_cons_zero, List.set_cons_succ])
              refine wpAnyK_done (by kernel_rfl) (NoPanic.normal ?_) _
              go_end0
              exact ⟨rfl, _, _, HB6.out⟩
            exact AllReadyK.nil
          exact AllReadyK.nil
        exact AllReadyK.nil
      exact AllReadyK.nil
    refine AllReadyK.cons (by simp only [List.getElem?_toArray, List.getElem?_cons_succ, List.getElem?_cons_zero]; rfl) (fun K hK => ?_) ?_
    · go_simp
      have N2 := Lib.hid (show Blk (((w.drew).alloc (.cells #[I64 c] 3)).alloc (.cells #[I64 x] 3)) (w.heap.size + 1) 3 #[I64 x] from by have := Blk.new ((w.drew).alloc (.cells #[I64 c] 3)) 3 #[I64 x]; simpa using this)
      have HB2 := Lib.hid (HB1.out.alloc (.cells #[I64 x] 3))
      have hS := HB2.out.s
      have N1 := Lib.hid (N1.out.alloc (.cells #[I64 x] 3))
      refine hK.out _ _ hS (fun _ => ?_)
      clear hK K
      (try simp only [Act.put, List.setIfInBounds_toArray, List.set_cons_zero, List.set_cons_succ])
      refine wpAnyK_ready (rs := [9]) (by kernel_rfl) (by simp) ?_
      refine AllReadyK.cons (by simp only [List.getElem?_toArray, List.getElem?_cons_succ, List.getElem?_cons_zero]; rfl) (fun K hK => ?_) ?_
      · refine step_push (((w.drew).alloc (.cells #[I64 c] 3)).alloc (.cells #[I64 x] 3)) (by rfl) (.tmp 12) (.tmp 14) _ (by rfl) 3 i0 _ 8 Try.underlying22 HI.out.1 HI.out.2.1 HI.out.2.2.1 HI.out.2.2.2 rfl _ (C.map I64) C.length HL1.out (by rfl) HB2.out.c _ 1 (I64 c) (by rfl) (by first | exact N1.out.cell 0 | simpa using N1.out.cell 0) rfl (by simp [maxLen]; omega) (by omega) ?_
        intro gC oC capC wC hownC hgC hatC
        have HB3 := Lib.hid (HB2.out.pushC hownC hgC hatC)
        have hS := HB3.out.s
        have N2 := Lib.hid (N2.out.grown hgC (fun e => by have := H.out.c.lt e.symm; omega))
        clear hownC hgC hatC
        refine hK.out _ _ hS (fun _ => ?_)
        clear hK K
        (try simp only [Act.put, List.setIfInBounds_toArray, List.set_cons_zero, List.set_cons_succ])
        refine wpAnyK_ready (rs := [17]) (by kernel_rfl) (by simp) ?_
        refine AllReadyK.cons (by simp only [List.getElem?_toArray, List.getElem?_cons_succ, List.getElem?_cons_zero]; rfl) (fun K hK => ?_) ?_
        · refine step_push (wC) (by rfl) (.tmp 20) (.tmp 22) _ (by rfl) 3 i0 _ 8 Try.underlying22 HI.out.1 HI.out.2.1 HI.out.2.2.1 HI.out.2.2.2 rfl _ (L.map I64) L.length HL2.out (by rfl) HB3.out.l _ 1 (I64 x) (by rfl) (by first | exact N2.out.cell 0 | simpa using N2.out.cell 0) rfl (by simp [maxLen]; omega) (by omega) ?_
          intro gL oL capL wL hownL hgL hatL
          have HB4 := Lib.hid (HB3.out.pushL hownL hgL hatL)
          have hS := HB4.out.s
          clear hownL hgL hatL
          refine hK.out _ _ hS (fun _ => ?_)
          clear hK K
          (try simp only [Act.put, List.setIfInBounds_toArray, List.set_cons_zero, List.set_cons_succ])
          refine wpAnyK_pure (i := 18) (v := ?_) (by simp only [List.getElem?_toArray, List.getElem?_cons_succ, List.getElem?_cons_zero]; rfl) (by kernel_rfl) (by kernel_rfl) (by kernel_rfl) rfl (fun _ _ _ h => h) (Or.inl ⟨by rfl, ?_⟩) (fun _ => hS) ?_
          rotate_left
          · intro w hSw; clear hSw; go_simp; try (with_reducible rfl)
          (try simp only [Act.put, List.setIfInBounds_toArray, List.set_cons_zero, List.set_cons_succ])
          refine wpAnyK_pure (i := 19) (v := ?_) (by simp only [List.getElem?_toArray, List.getElem?_cons_succ, List.getElem?_cons_zero]; rfl) (by kernel_rfl) (by kernel_rfl) (by kernel_rfl) rfl (fun _ _ _ h => h) (Or.inl ⟨by rfl, ?_⟩) (fun _ => hS) ?_
          rotate_left
          · intro w hSw; clear hSw; go_simp; try (with_reducible rfl)
          (try simp only [Act.put, List.setIfInBounds_toArray, List.set_cons_zero, List.set_cons_succ])
          refine wpAnyK_pure (i := 20) (v := ?_) (by simp only [List.getElem?_toArray, List.getElem?_cons_succ, List.getElem?_cons_zero]; rfl) (by kernel_rfl) (by kernel_rfl) (by kernel_rfl) rfl (fun _ _ _ h => h) (Or.inl ⟨by rfl, ?_⟩) (fun _ => hS) ?_
          rotate_left
          · intro w hSw; clear hSw; go_simp; try (with_reducible rfl)
          (try simp only [Act.put, List.setIfInBounds_toArray, List.set_cons_zero, List.set_cons_succ])
          refine wpAnyK_ready (rs := [21]) (by kernel_rfl) (by simp) ?_
          refine AllReadyK.late (by simp only [List.getElem?_toArray, List.getElem?_cons_succ, List.getElem?_cons_zero]; rfl) (by kernel_rfl) (fun K hK => ?_) ?_
          · have f0 : wL.frozen? ⟨p, 0, none⟩ = false := HB4.out.blk.frozen 0
            have d0 := HB4.out.s.1
            go_simp
            have HB5 := Lib.hid (HB4.out.set0 (.slice (some ⟨gC, oC, none⟩) (C.length + 1) capC))
            refine hK.out _ _ ?_
            clear hK K
            (try simp only [Act.put, List.setIfInBounds_toArray, List.set_cons_zero, List.set_cons_succ])
            refine wpAnyK_pure (i := 22) (v := ?_) (by simp only [List.getElem?_toArray, List.getElem?_cons_succ, List.getElem?_cons_zero]; rfl) (by kernel_rfl) (by kernel_rfl) (by kernel_rfl) rfl (fun _ _ _ h => h) (Or.inl ⟨by rfl, ?_⟩) (by intro h0; cases h0) ?_
            rotate_left
            · intro w hSw; clear hSw; go_simp; try (with_reducible rfl)
            (try simp only [Act.put, List.setIfInBounds_toArray, List.set_cons_zero, List.set_cons_succ])
            refine wpAnyK_pure (i := 23) (v := ?_) (by simp only [List.getElem?_toArray, List.getElem?_cons_succ, List.getElem?_cons_zero]; rfl) (by kernel_rfl) (by kernel_rfl) (by kernel_rfl) rfl (fun _ _ _ h => h) (Or.inl ⟨by rfl, ?_⟩) (by intro h0; cases h0) ?_
            rotate_left
            · intro w hSw; clear hSw; go_simp; try (with_reducible rfl)
            (try simp only [Act.put, List.setIfInBounds_toArray, List.set_cons_zero, List.set_cons_succ])
            refine wpAnyK_pure (i := 24) (v := ?_) (by simp only [List.getElem?_toArray, List.getElem?_cons_succ, List.getElem?_cons_zero]; rfl) (by kernel_rfl) (by kernel_rfl) (by kernel_rfl) rfl (fun _ _ _ h => h) (Or.inl ⟨by rfl, ?_⟩) (by intro h0; cases h0) ?_
            rotate_left
            · intro w hSw; clear hSw; go_simp; try (with_reducible rfl)
            (try simp only [Act.put, List.setIfInBounds_toArray, List.set_cons_zero, List.set_cons_succ])
            refine wpAnyK_ready (rs := [25]) (by kernel_rfl) (by simp) ?_
            refine AllReadyK.late (by simp only [List.getElem?_toArray, List.getElem?_cons_succ, List.getElem?_cons_zero]; rfl) (by kernel_rfl) (fun K hK => ?_) ?_
            · have f1 := HB4.out.blk.frozen 1
              have d1 := HB4.out.s.2
              go_simp
              have HB6 := Lib.hid (HB5.out.set1 (.slice (some ⟨gL, oL, none⟩) (L.length + 1) capL))
              refine hK.out _ _ ?_
              clear hK K
              (try simp only [Act.put, List.setIfInBounds_toArray, List.set_cons_zero, List.set_cons_succ])
              refine wpAnyK_done (by kernel_rfl) (NoPanic.normal ?_) _
              go_end0
              exact ⟨rfl, _, _, HB6.out⟩
            exact AllReadyK.nil
          exact AllReadyK.nil
        exact AllReadyK.nil
      exact AllReadyK.nil
    exact AllReadyK.nil
  refine AllReadyK.cons (by simp only [List.getElem?_toArray, List.getElem?_cons_succ, List.getElem?_cons_zero]; rfl) (fun K hK => ?_) ?_
  · go_simp
    have N2 := Lib.hid (show Blk ((w.drew).alloc (.cells #[I64 x] 3)) (w.heap.size) 3 #[I64 x] from by have := Blk.new (w.drew) 3 #[I64 x]; simpa using this)
    have HB1 := Lib.hid (HB0.out.alloc (.cells #[I64 x] 3))
    have hS := HB1.out.s
    refine hK.out _ _ hS (fun _ => ?_)
    clear hK K
    (try simp only [Act.put, List.setIfInBounds_toArray, List.set_cons_zero, List.set_cons_succ])
    refine wpAnyK_ready (rs := [8]) (by kernel_rfl) (by simp) ?_
    refine AllReadyK.cons (by simp only [List.getElem?_toArray, List.getElem?_cons_succ, List.getElem?_cons_zero]; rfl) (fun K hK => ?_) ?_
    · go_simp
      have N1 := Lib.hid (show Blk (((w.drew).alloc (.cells #[I64 x] 3)).alloc (.cells #[I64 c] 3)) (w.heap.size + 1) 3 #[I64 c] from by have := Blk.new ((w.drew).alloc (.cells #[I64 x] 3)) 3 #[I64 c]; simpa using this)
      have HB2 := Lib.hid (HB1.out.alloc (.cells #[I64 c] 3))
      have hS := HB2.out.s
      have N2 := Lib.hid (N2.out.alloc (.cells #[I64 c] 3))
      refine hK.out _ _ hS (fun _ => ?_)
      clear hK K
      (try simp only [Act.put, List.setIfInBounds_toArray, List.set_cons_zero, List.set_cons_succ])
      refine wpAnyK_ready (rs := [9]) (by kernel_rfl) (by simp) ?_
      refine AllReadyK.cons (by simp only [List.getElem?_toArray, List.getElem?_cons_succ, List.getElem?_cons_zero]; rfl) (fun K hK => ?_) ?_
      · refine step_push (((w.drew).alloc (.cells #[I64 x] 3)).alloc (.cells #[I64 c] 3)) (by rfl) (.tmp 12) (.tmp 14) _ (by rfl) 3 i0 _ 8 Try.underlying22 HI.out.1 HI.out.2.1 HI.out.2.2.1 HI.out.2.2.2 rfl _ (C.map I64) C.length HL1.out (by rfl) HB2.out.c _ 1 (I64 c) (by rfl) (by first | exact N1.out.cell 0 | simpa using N1.out.cell 0) rfl (by simp [maxLen]; omega) (by omega) ?_
        intro gC oC capC wC hownC hgC hatC
        have HB3 := Lib.hid (HB2.out.pushC hownC hgC hatC)
        have hS := HB3.out.s
        have N2 := Lib.hid (N2.out.grown hgC (fun e => by have := H.out.c.lt e.symm; omega))
        clear hownC hgC hatC
        refine hK.out _ _ hS (fun _ => ?_)
        clear hK K
        (try simp only [Act.put, List.setIfInBounds_toArray, List.set_cons_zero, List.set_cons_succ])
        refine wpAnyK_ready (rs := [17]) (by kernel_rfl) (by simp) ?_
        refine AllReadyK.cons (by simp only [List.getElem?_toArray, List.getElem?_cons_succ, List.getElem?_cons_zero]; rfl) (fun K hK => ?_) ?_
        · refine step_push (wC) (by rfl) (.tmp 20) (.tmp 22) _ (by rfl) 3 i0 _ 8 Try.underlying22 HI.out.1 HI.out.2.1 HI.out.2.2.1 HI.out.2.2.2 rfl _ (L.map I64) L.length HL2.out (by rfl) HB3.out.l _ 1 (I64 x) (by rfl) (by first | exact N2.out.cell 0 | simpa using N2.out.cell 0) rfl (by simp [maxLen]; omega) (by omega) ?_
          intro gL oL capL wL hownL hgL hatL
          have HB4 := Lib.hid (HB3.out.pushL hownL hgL hatL)
          have hS := HB4.out.s
          clear hownL hgL hatL
          refine hK.out _ _ hS (fun _ => ?_)
          clear hK K
          (try simp only [Act.put, List.setIfInBounds_toArray, List.set_cons_zero, List.set_cons_succ])
          refine wpAnyK_pure (i := 18) (v := ?_) (by simp only [List.getElem?_toArray, List.getElem?_cons_succ, List.getElem?_cons_zero]; rfl) (by kernel_rfl) (by kernel_rfl) (by kernel_rfl) rfl (fun _ _ _ h => h) (Or.inl ⟨by rfl, ?_⟩) (fun _ => hS) ?_
          rotate_left
          · intro w hSw; clear hSw; go_simp; try (with_reducible rfl)
          (try simp only [Act.put, List.setIfInBounds_toArray, List.set_cons_zero, List.set_cons_succ])
          refine wpAnyK_pure (i := 19) (v := ?_) (by simp only [List.getElem?_toArray, List.getElem?_cons_succ, List.getElem?_cons_zero]; rfl) (by kernel_rfl) (by kernel_rfl) (by kernel_rfl) rfl (fun _ _ _ h => h) (Or.inl ⟨by rfl, ?_⟩) (fun _ => hS) ?_
          rotate_left
          · intro w hSw; clear hSw; go_simp; try (with_reducible rfl)
          (try simp only [Act.put, List.setIfInBounds_toArray, List.set_cons_zero, List.set_cons_succ])
          refine wpAnyK_pure (i := 20) (v := ?_) (by simp only [List.getElem?_toArray, List.getElem?_cons_succ, List.getElem?_cons_zero]; rfl) (by kernel_rfl) (by kernel_rfl) (by kernel_rfl) rfl (fun _ _ _ h => h) (Or.inl ⟨by rfl, ?_⟩) (fun _ => hS) ?_
          rotate_left
          · intro w hSw; clear hSw; go_simp; try (with_reducible rfl)
          (try simp only [Act.put, List.setIfInBounds_toArray, List.set_cons_zero, List.set_cons_succ])
          refine wpAnyK_ready (rs := [21]) (by kernel_rfl) (by simp) ?_
          refine AllReadyK.late (by simp only [List.getElem?_toArray, List.getElem?_cons_succ, List.getElem?_cons_zero]; rfl) (by kernel_rfl) (fun K hK => ?_) ?_
          · have f0 : wL.frozen? ⟨p, 0, none⟩ = false := HB4.out.blk.frozen 0
            have d0 := HB4.out.s.1
            go_simp
            have HB5 := Lib.hid (HB4.out.set0 (.slice (some ⟨gC, oC, none⟩) (C.length + 1) capC))
            refine hK.out _ _ ?_
            clear hK K
            (try simp only [Act.put, List.setIfInBounds_toArray, List.set_cons_zero, List.set_cons_succ])
            refine wpAnyK_pure (i := 22) (v := ?_) (by simp only [List.getElem?_toArray, List.getElem?_cons_succ, List.getElem?_cons_zero]; rfl) (by kernel_rfl) (by kernel_rfl) (by kernel_rfl) rfl (fun _ _ _ h => h) (Or.inl ⟨by rfl, ?_⟩) (by intro h0; cases h0) ?_
            rotate_left
            · intro w hSw; clear hSw; go_simp; try (with_reducible rfl)
            (try simp only [Act.put, List.setIfInBounds_toArray, List.set_cons_zero, List.set_cons_succ])
            refine wpAnyK_pure (i := 23) (v := ?_) (by simp only [List.getElem?_toArray, List.getElem?_cons_succ, List.getElem?_cons_zero]; rfl) (by kernel_rfl) (by kernel_rfl) (by kernel_rfl) rfl (fun _ _ _ h => h) (Or.inl ⟨by rfl, ?_⟩) (by intro h0; cases h0) ?_
            rotate_left
            · intro w hSw; clear hSw; go_simp; try (with_reducible rfl)
            (try simp only [Act.put, List.setIfInBounds_toArray, List.set_cons_zero, List.set_cons_succ])
            refine wpAnyK_pure (i := 24) (v := ?_) (by simp only [List.getElem?_toArray, List.getElem?_cons_succ, List.getElem?_cons_zero]; rfl) (by kernel_rfl) (by kernel_rfl) (by kernel_rfl) rfl (fun _ _ _ h => h) (Or.inl ⟨by rfl, ?_⟩) (by intro h0; cases h0) ?_
            rotate_left
            · intro w hSw; clear hSw; go_simp; try (with_reducible rfl)
            (try simp only [Act.put, List.setIfInBounds_toArray, List.set_cons_zero, List.set_cons_succ])
            refine wpAnyK_ready (rs := [25]) (by kernel_rfl) (by simp) ?_
            refine AllReadyK.late (by simp only [List.getElem?_toArray, List.getElem?_cons_succ, List.getElem?_cons_zero]; rfl) (by kernel_rfl) (fun K hK => ?_) ?_
            · have f1 := HB4.out.blk.frozen 1
              have d1 := HB4.out.s.2
              go_simp
              have HB6 := Lib.hid (HB5.out.set1 (.slice (some ⟨gL, oL, none⟩) (L.length + 1) capL))
              refine hK.out _ _ ?_
              clear hK K
              (try simp only [Act.put, List.setIfInBounds_toArray, List.set_cons_zero, List.set_cons_succ])
              refine wpAnyK_done (by kernel_rfl) (NoPanic.normal ?_) _
              go_end0
              exact ⟨rfl, _, _, HB6.out⟩
            exact AllReadyK.nil
          exact AllReadyK.nil
        exact AllReadyK.nil
      exact AllReadyK.nil
    exact AllReadyK.nil
  exact AllReadyK.nil
end Go.Proofs.Ytibfgeoiemmjoaa
