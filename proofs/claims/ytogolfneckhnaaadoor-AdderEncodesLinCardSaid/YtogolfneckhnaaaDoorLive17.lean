/- The sanity check of layer 17 returns true, in whatever world the bit table lies. -/
import Derived.Test.YtogolfneckhnaaaDoorAdSum
import Derived.Test.YtogolfneckhnaaaDoorAdLeast
import Derived.Test.YtogolfneckhnaaaDoorRef14
namespace Go.Proofs.YtogolfneckhnaaaDoor
open Go.RowKit Go.Shelf

theorem sum_any (A L : Option Addr) (cA cL : Nat) (coef l : List Int) (next : Int) (w : World) (ha : Rd I64 (· < w.heap.size) w A coef) (hl : Rd I64 (· < w.heap.size) w L l) (hT : TabAt w)
    (hla : coef.length ≤ 1000000000) (hll : l.length ≤ 1000000000) :
    Calls Tryd.prog 13 #[.slice A coef.length cA, .slice L l.length cL, I64 next] w (SumPost w (sumP coef l next)) := by
  by_cases hg : next < 1 ∨ 65537 < next ∨ coef.length ≠ l.length
  · exact sum_bad A L cA cL coef l next w hg
  · exact sum_go A L cA cL coef l next w ha hl hT hla hll (by omega) (by omega) (by omega)

theorem rd_blk {D : Nat → Prop} {w : World} {g : Nat} {t : TypeId} {ys : Array Value} {xs : List Int} (h : Blk w g t ys) (hy : ys = (xs.map I64).toArray) (hg : D g) : Rd I64 D w (some ⟨g, 0, none⟩) xs := fun _ =>
  ⟨g, 0, rfl, hg, fun j hj => by rw [h.cell, hy]; simp [hj]⟩

theorem ex_sum1 : sumP [1, 1] [1, 2] 3 = .ok [3, 4] (addC [1, 2] 3 4) 5 := by rfl
theorem ex_sum2 : sumP [1] [3] 3 = .err 1 := by rfl
theorem ex_sum3 : sumP [] [] 1 = .ok [] [] 1 := by rfl
theorem ex_least2 : leastP [3, 4] 2 = .ok [[4]] := by rfl
theorem ex_least1 : leastP [3, 4] 1 = .ok [[3, 4]] := by rfl
theorem ex_least3 : leastP [3, 4] 3 = .ok [[3], [4]] := by rfl
theorem ex_least4 : leastP [3, 4] 4 = .ok [[]] := by rfl

theorem sum_ex1 (g1 g2 : Nat) (w : World) (h1 : Blk w g1 3 #[I64 1, I64 1]) (h2 : Blk w g2 3 #[I64 1, I64 2]) (hT : TabAt w) :
    Calls Tryd.prog 13 #[.slice (some ⟨g1, 0, none⟩) 2 2, .slice (some ⟨g2, 0, none⟩) 2 2, I64 3] w fun e w' => ∃ A cA C cC, e = .returned (.tuple #[.slice A 2 cA, .slice C 7 cC, I64 5, I64 0]) ∧ Rd I64 (· < w'.heap.size) w' A [3, 4] ∧ Below w.heap.size w w' := by
  have h := sum_any (some ⟨g1, 0, none⟩) (some ⟨g2, 0, none⟩) 2 2 [1, 1] [1, 2] 3 w (rd_blk h1 rfl h1.lt) (rd_blk h2 rfl h2.lt) hT (by decide) (by decide)
  rw [ex_sum1] at h
  exact h.mono fun e w' ⟨A, cA, C, cC, e1, _, _, r1, _, hb⟩ => ⟨A, cA, C, cC, e1, r1, hb⟩
theorem sum_ex2 (g1 g2 : Nat) (w : World) (h1 : Blk w g1 3 #[I64 1]) (h2 : Blk w g2 3 #[I64 3]) (hT : TabAt w) :
    Calls Tryd.prog 13 #[.slice (some ⟨g1, 0, none⟩) 1 1, .slice (some ⟨g2, 0, none⟩) 1 1, I64 3] w fun e w' => e = .returned (.tuple #[.slice none 0 0, .slice none 0 0, I64 0, I64 1]) ∧ Below w.heap.size w w' := by
  have h := sum_any (some ⟨g1, 0, none⟩) (some ⟨g2, 0, none⟩) 1 1 [1] [3] 3 w (rd_blk h1 rfl h1.lt) (rd_blk h2 rfl h2.lt) hT (by decide) (by decide)
  rw [ex_sum2] at h
  exact h.mono fun e w' ⟨e1, hb⟩ => ⟨e1, hb⟩
theorem sum_ex3 (w : World) (hT : TabAt w) :
    Calls Tryd.prog 13 #[.slice none 0 0, .slice none 0 0, I64 1] w fun e w' => ∃ A cA C cC, e = .returned (.tuple #[.slice A 0 cA, .slice C 0 cC, I64 1, I64 0]) ∧ Below w.heap.size w w' := by
  have h := sum_any none none 0 0 [] [] 1 w (Rd.nil _) (Rd.nil _) hT (by decide) (by decide)
  rw [ex_sum3] at h
  exact h.mono fun e w' ⟨A, cA, C, cC, e1, _, _, _, _, hb⟩ => ⟨A, cA, C, cC, e1, hb⟩
theorem least_ex (A : Option Addr) (cA : Nat) (k : Int) (cs : List (List Int)) (n : Nat) (w : World) (ha : Rd I64 (· < w.heap.size) w A [3, 4]) (hT : TabAt w) (hr : leastP [3, 4] k = .ok cs) (hn : cs.length = n) :
    Calls Tryd.prog 17 #[.slice A 2 cA, I64 k] w fun e w' => ∃ C cC, e = .returned (.tuple #[.slice C n cC, I64 0]) ∧ RdL (· < w'.heap.size) w' C cs ∧ Below w.heap.size w w' := by
  subst hn
  have h := least_any A cA [3, 4] k w ha hT (by decide)
  rw [hr] at h
  exact h.mono fun e w' ⟨C, cC, e1, _, r1, hb⟩ => ⟨C, cC, e1, r1, hb⟩
theorem lists_true {D : Nat → Prop} (A B : Option Addr) (c d n : Nat) (xs : List (List Int)) (w : World) (ha : RdL D w A xs) (hb : RdL D w B xs) (hn : xs.length = n) (hx : xs.length ≤ 100) (hxs : ∀ x ∈ xs, x.length ≤ 100) :
    Calls Tryd.prog 16 #[.slice A n c, .slice B n d] w fun e w' => e = .returned (.bool true) ∧ ∃ q, w' = w.drewN q := by
  subst hn
  have h := lists_any A B c d xs xs w ha hb (by unfold maxLen; omega) (by unfold maxLen; omega) (fun x h => by have := hxs x h; unfold maxLen; omega) (fun x h => by have := hxs x h; unfold maxLen; omega)
  exact h.mono fun e w' ⟨e1, hb⟩ => ⟨by rw [e1]; simp, hb⟩
theorem ints_true {D : Nat → Prop} (A B : Option Addr) (c d n : Nat) (xs : List Int) (w : World) (ha : Rd I64 D w A xs) (hb : Rd I64 D w B xs) (hn : xs.length = n) (hx : xs.length ≤ 100) :
    Calls Tryd.prog 15 #[.slice A n c, .slice B n d] w fun e w' => e = .returned (.bool true) ∧ ∃ q, w' = w.drewN q := by
  subst hn
  have h := ints_any A B c d xs xs w ha hb (by unfold maxLen; omega) (by unfold maxLen; omega)
  exact h.mono fun e w' ⟨e1, hb⟩ => ⟨by rw [e1]; simp, hb⟩
theorem rdl_one {D : Nat → Prop} {w : World} {g g1 n : Nat} {ys : Array Value} {xs : List Int} (h : Blk w g 22 #[.slice (some ⟨g1, 0, none⟩) n n]) (h1 : Blk w g1 3 ys) (hy : ys = (xs.map I64).toArray) (hn : xs.length = n) (d : D g) (d1 : D g1) : RdL D w (some ⟨g, 0, none⟩) [xs] := fun _ => by
  subst hn
  refine ⟨g, 0, rfl, d, fun j hj => ?_⟩
  have : j = 0 := by simpa using hj
  subst this
  exact ⟨_, _, h.cell 0, Nat.le_refl _, rd_blk h1 hy d1⟩
theorem rdl_two {D : Nat → Prop} {w : World} {g g1 g2 n1 n2 : Nat} {ys zs : Array Value} {xs us : List Int} (h : Blk w g 22 #[.slice (some ⟨g1, 0, none⟩) n1 n1, .slice (some ⟨g2, 0, none⟩) n2 n2]) (h1 : Blk w g1 3 ys) (hy : ys = (xs.map I64).toArray) (hn1 : xs.length = n1)
    (h2 : Blk w g2 3 zs) (hz : zs = (us.map I64).toArray) (hn2 : us.length = n2) (d : D g) (d1 : D g1) (d2 : D g2) : RdL D w (some ⟨g, 0, none⟩) [xs, us] := fun _ => by
  subst hn1 hn2
  refine ⟨g, 0, rfl, d, fun j hj => ?_⟩
  rcases j with _ | _ | j
  · exact ⟨_, _, h.cell 0, Nat.le_refl _, rd_blk h1 hy d1⟩
  · exact ⟨_, _, h.cell 1, Nat.le_refl _, rd_blk h2 hz d2⟩
  · simp at hj; omega
theorem below_up {w w' w'' : World} (h : Below w.heap.size w w') (h' : Below w'.heap.size w' w'') : Below w.heap.size w w'' := h.trans ⟨h'.os, h'.tape, h'.output, h'.size, fun i hi => h'.block i (Nat.lt_of_lt_of_le hi h.size)⟩
end Go.Proofs.YtogolfneckhnaaaDoor
