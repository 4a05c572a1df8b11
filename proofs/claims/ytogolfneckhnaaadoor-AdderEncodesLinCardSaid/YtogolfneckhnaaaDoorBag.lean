/- A slice of slices of ints that a call builds: words and lemmas; and the contracts of slices.IndexFunc and ContainsFunc at ints, for whatever predicate that only reads. -/
import Derived.Test.YtogolfneckhnaaaDoorAdLeaf
import Derived.Shelf.Abstract
namespace Go.Proofs.YtogolfneckhnaaaDoor
open Go.RowKit Go.Shelf

/-- ov is the call's own slice of slices (blocks from B on); they read as cs -/
def Bag (B : Nat) (w : World) (ov : Value) (cs : List (List Int)) : Prop :=
  ∃ vs, Own w 22 ov vs ∧ (∀ g, ov.ownBlock = some g → B ≤ g) ∧ vs.length = cs.length ∧ ∀ (j : Nat) v xs, vs[j]? = some v → cs[j]? = some xs → Cl (fun b => B ≤ b) w v xs

section
variable {B : Nat} {w w' : World} {ov : Value} {cs : List (List Int)}
theorem Bag.nil (B : Nat) (w : World) : Bag B w (.slice none 0 0) [] := ⟨[], Own.nil _ _, fun g h => by simp [Value.ownBlock] at h, rfl, fun j v xs hv => by simp at hv⟩
theorem Bag.below (h : Bag B w ov cs) (hb : Below w.heap.size w w') : Bag B w' ov cs := by
  obtain ⟨vs, h1, h2, h3, h4⟩ := h
  have hk := Kp.of_below hb
  exact ⟨vs, h1.kp hk (fun g hg e => by have := h1.lt hg; omega), h2, h3, fun j v xs hv hx => (h4 j v xs hv hx).kp hk (fun b hb e => by have := hb.lt; omega) (fun _ _ h => h)⟩
theorem Bag.form (h : Bag B w ov cs) : ∃ vs, Own w 22 ov vs ∧ vs.length = cs.length := by
  obtain ⟨vs, h1, _, h3, _⟩ := h
  exact ⟨vs, h1, h3⟩
/-- the slice lv was appended (it lay in a block of its own) -/
theorem Bag.push {vs : List Value} {lv : Value} {xs : List Int} {o : Obj} {gg off cap : Nat} (hB : B ≤ w.heap.size) (h1 : Own w 22 ov vs) (h2 : ∀ g, ov.ownBlock = some g → B ≤ g) (h3 : vs.length = cs.length)
    (h4 : ∀ (j : Nat) v xs, vs[j]? = some v → cs[j]? = some xs → Cl (fun b => B ≤ b) w v xs) (hl : Cl (fun b => B ≤ b) w lv xs)
    (hown : Own w' 22 (.slice (some ⟨gg, off, none⟩) (cs.length + 1) cap) (vs ++ [lv])) (hg : (w.alloc o).grownBy w' ov.ownBlock) (hat : ov.ownBlock = some gg ∨ gg = w.heap.size + 1) :
    Bag B w' (.slice (some ⟨gg, off, none⟩) (cs.length + 1) cap) (cs ++ [xs]) ∧ Below B w w' := by
  have hk : Kp (fun b => ov.ownBlock = some b) w w' := ((Kp.refl (fun b => ov.ownBlock = some b) w).alloc o).grown hg (fun _ e _ => e)
  have hc : ∀ {v : Value} {ys : List Int}, Cl (fun b => B ≤ b) w v ys → Cl (fun b => B ≤ b) w' v ys := fun h => h.kp hk (fun b hb e => hb.ne_own h1 (by decide) e) (fun _ _ h => h)
  refine ⟨⟨_, hown, fun g hgg => ?_, by simp [h3], fun j v ys hv hy => ?_⟩, hk.below (fun b hb _ e => by have := h2 b e; omega) hB⟩
  · have e : gg = g := by simpa [Value.ownBlock] using hgg
    subst e
    rcases hat with e | e
    · exact h2 _ e
    · omega
  · rw [List.getElem?_append] at hv hy
    rw [h3] at hv
    by_cases hj : j < cs.length
    · rw [if_pos hj] at hv hy
      exact hc (h4 j v ys hv hy)
    · rw [if_neg hj] at hv hy
      have e0 : j - cs.length = 0 := by
        rcases Nat.eq_zero_or_pos (j - cs.length) with h | h
        · exact h
        · rw [List.getElem?_eq_none (by simp; omega)] at hv; cases hv
      rw [e0] at hv hy
      simp at hv hy
      subst hv hy
      exact hc hl
theorem Bag.rdl (h : Bag B w ov cs) : ∃ C cC, ov = .slice C cs.length cC ∧ cs.length ≤ cC ∧ RdL (· < w.heap.size) w C cs := by
  obtain ⟨vs, h2, _, h3, h4⟩ := h
  have h2' := h2
  obtain ⟨C, cC, e, hc, hcell⟩ := h2.cell
  rw [h3] at e hc
  refine ⟨C, cC, e, hc, fun hn => ?_⟩
  obtain ⟨b, off, e1, hb, _⟩ := hcell 0 (by omega)
  refine ⟨b, off, e1, h2'.lt hb, fun j hj => ?_⟩
  obtain ⟨b', off', e2, _, hc'⟩ := hcell j (by omega)
  rw [e1] at e2
  cases e2
  obtain ⟨A', c', e3, h5, h6⟩ := h4 j (vs[j]'(by omega)) cs[j] (List.getElem?_eq_getElem (by omega)) (List.getElem?_eq_getElem hj)
  exact ⟨A', c', by rw [hc', e3], h5, h6.mono (fun b hb => hb.lt)⟩
end

/-- what a predicate closure does: it says pd x, and only reads -/
def Preds (f : Nat) (lb : List Value) (pd : Int → Bool) (l : List Int) (w : World) : Prop :=
  ∀ x ∈ l, ∀ n, Calls Tryd.prog f (I64 x :: lb).toArray (w.drewN n) fun e w' => e = .returned (.bool (pd x)) ∧ ∃ q, w' = w.drewN q

set_option maxHeartbeats 800000 in
theorem if_any {D : Nat → Prop} (f : Nat) (lb : List Value) (pd : Int → Bool) (A : Option Addr) (c : Nat) (l : List Int) (w : World) (heg : ∀ (args : Array Value) (w : World), (callFunc f args).run Tryd.prog w = .ok (.enter f args) w)
    (hp : Preds f lb pd l w) (hr : Rd I64 D w A l) (hl : l.length ≤ maxLen) :
    Calls Tryd.prog 71 #[.slice A l.length c, .func (.func f) #[] lb.toArray] w fun e w' => (∃ i : Int, e = .returned (I64 i) ∧ (decide (0 ≤ i) = l.any pd)) ∧ ∃ q, w' = w.drewN q := by
  unfold maxLen at hl
  have HP := Lib.hid hp
  have HR := Lib.hid hr
  clear hp hr
  go_enter Tryd.func71, Tryd.ntmps71
  go_wp2_with fail
  go_loopw [8] (fun i wr => ∃ k q : Nat, i = .int .i64 k ∧ k ≤ l.length ∧ wr = w.drewN q ∧ (l.take k).any pd = false) (fun i _ => l.length - (intOf i).toNat)
  case atStart => exact ⟨0, 0, rfl, Nat.zero_le _, rfl, rfl⟩
  case round =>
    obtain ⟨k, q, rfl, hk, hw, ht⟩ := hrel
    have HW := Lib.hid hw
    have HT := Lib.hid ht
    clear ht hw
    by_cases hlt : k < l.length
    · obtain ⟨a, oa, rfl, _, ca⟩ := (show Rd I64 D wr A l by rw [HW.out]; exact HR.out).at_ hlt
      have hpx := HP.out l[k] (List.getElem_mem hlt) q
      have htk : (l.take (k + 1)).any pd = pd l[k] := by rw [List.take_succ_eq_append_getElem hlt, List.any_append, HT.out]; simp
      have hyes : pd l[k] = true → l.any pd = true := fun h => List.any_eq_true.2 ⟨l[k], List.getElem_mem hlt, h⟩
      rw [← HW.out] at hpx
      generalize l[k] = x at ca hpx htk hyes
      have HPX := Lib.hid hpx
      have HTK := Lib.hid htk
      have HY := Lib.hid hyes
      clear hpx htk hyes
      generalize hb : pd x = b at HPX HTK HY
      have HBB := Lib.hid hb
      clear hb
      go_wp2_with fail
      refine HPX.out.mono ?_
      rintro e w3 ⟨rfl, q3, hq3⟩
      have HQ3 := Lib.hid hq3
      clear hq3
      cases b
      · go_wp2_with fail
        go_roundw
        case rel => exact ⟨k + 1, q3, by go_num, by omega, HQ3.out, HTK.out⟩
        case measure => simp [intOf]; omega
      · go_wp2_with fail
        go_ret
        exact ⟨⟨_, rfl, by have h := HY.out (by simp); rw [h]; simp⟩, q3, HQ3.out⟩
    · go_wp2_with fail
      go_ret
      refine ⟨⟨_, rfl, ?_⟩, q, HW.out⟩
      have h2 := HT.out
      rw [List.take_of_length_le (by omega)] at h2
      rw [h2]; rfl

set_option maxHeartbeats 400000 in
theorem cf_any {D : Nat → Prop} (f : Nat) (lb : List Value) (pd : Int → Bool) (A : Option Addr) (c : Nat) (l : List Int) (w : World) (heg : ∀ (args : Array Value) (w : World), (callFunc f args).run Tryd.prog w = .ok (.enter f args) w)
    (hp : Preds f lb pd l w) (hr : Rd I64 D w A l) (hl : l.length ≤ maxLen) :
    Calls Tryd.prog 36 #[.slice A l.length c, .func (.func f) #[] lb.toArray] w fun e w' => e = .returned (.bool (l.any pd)) ∧ ∃ q, w' = w.drewN q := by
  have H := Lib.hid (if_any f lb pd A c l w heg hp hr hl)
  clear heg hp hr hl
  go_enter Tryd.func36, Tryd.ntmps36
  go_wp2_with fail
  refine H.out.mono ?_
  rintro e w3 ⟨⟨i, rfl, hi⟩, q3, hq3⟩
  have HI := Lib.hid hi
  have HQ3 := Lib.hid hq3
  clear hi hq3
  go_wp2_with fail
  go_ret
  exact ⟨by simp [← HI.out], q3, HQ3.out⟩
end Go.Proofs.YtogolfneckhnaaaDoor
