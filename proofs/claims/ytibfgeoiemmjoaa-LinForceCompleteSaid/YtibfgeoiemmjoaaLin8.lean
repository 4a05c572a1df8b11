/- Contracts of slices.Grow and slices.Concat at ints. -/
import Derived.Test.YtibfgeoiemmjoaaLin7
import Derived.Test.YtibfgeoiemmjoaaAppN
import Derived.Test.YtibfgeoiemmjoaaShelf2
namespace Go.Proofs.Ytibfgeoiemmjoaa
open Go.RowKit Go.Shelf

theorem grow_any (n : Nat) (hn : n ≤ 1000000) (w : World) : Calls Try.prog 68 #[.slice none 0 0, .int .i64 n] w fun e w' => ∃ A c, e = .returned (.slice A 0 c) ∧ Own w' 3 (.slice A 0 c) [] ∧
    (∀ g, (Value.slice A 0 c).ownBlock = some g → w.heap.size ≤ g) ∧ Below w.heap.size w w' := by
  by_cases h0 : n = 0
  · subst h0
    refine (Any8.slices_Grow_room Try.shGrow none 0 0 0 w (by omega) (by omega) (by omega) (by omega)).mono ?_
    rintro e w' ⟨rfl, rfl⟩
    exact ⟨none, 0, rfl, Own.nil _ _, fun g h => (by cases h), Below.refl _ _⟩
  · obtain ⟨i0, hi, hz0, hz1, hz2⟩ := info_parts info_int
    refine (Any8.slices_Grow_grow Try.shGrow i0 (.int .i64 0) hi hz0 (by omega) none 0 0 n [] w (by omega) (by omega) (by rw [hz2]; omega) (by omega) (by simp) (fun _ => rfl) (fun a h => by cases h)).mono ?_
    rintro e w' ⟨rfl, rfl⟩
    have hge := grownCap_ge w (0 + n) 0 3
    have hle := grownCap_le_maxLen w (0 + n) 0 3 (by unfold maxLen; omega)
    refine ⟨_, _, rfl, .inr ⟨w.heap.size, 0, _, _, rfl, heap_alloc_new _ _, Nat.zero_le _, hle, ?_, fun j h => by simp at h⟩, fun g h => ?_, ((Below.refl _ w).drew).alloc (Nat.le_refl _) _⟩
    · simp only [Array.size_append, size_zeroCells, List.size_toArray, List.length_nil, Nat.zero_add, Nat.sub_zero] at hge ⊢
      simp [Value.cells]
      omega
    · simp [Value.ownBlock] at h
      omega
def lens (xss : List (List Int)) : Nat := (xss.map List.length).sum
theorem lens_snoc (xss : List (List Int)) (x : List Int) : lens (xss ++ [x]) = lens xss + x.length := by simp [lens]
theorem lens_flat (xss : List (List Int)) : xss.flatten.length = lens xss := by simp [lens, List.length_flatten]
theorem lens_take (xss : List (List Int)) (i : Nat) : lens (xss.take i) ≤ lens xss := by
  induction xss generalizing i with
  | nil => simp [lens]
  | cons x t ih =>
    cases i with
    | zero => simp [lens]
    | succ i => have := ih i; simp only [lens, List.take_succ_cons, List.map_cons, List.sum_cons] at this ⊢; omega
/-- S holds slices that read as the lists xss -/
def RdN (D : Nat → Prop) (w : World) (S : Option Addr) (xss : List (List Int)) : Prop := ∀ i (h : i < xss.length), ∃ b off A' c', S = some ⟨b, off, none⟩ ∧ D b ∧ w.cell? ⟨b, off + i, none⟩ = some (.slice A' xss[i].length c') ∧ Rd I64 D w A' xss[i]
theorem RdN.at_ {D : Nat → Prop} {w : World} {S : Option Addr} {xss : List (List Int)} (h : RdN D w S xss) {i : Nat} (hi : i < xss.length) :
    ∃ b off A' c', S = some ⟨b, off, none⟩ ∧ D b ∧ w.cell? ⟨b, off + i, none⟩ = some (.slice A' xss[i].length c') ∧ Rd I64 D w A' xss[i] := h i hi
theorem RdN.up {w w' : World} {S : Option Addr} {xss : List (List Int)} (h : RdN (· < w.heap.size) w S xss) (hb : Below w.heap.size w w') : RdN (· < w'.heap.size) w' S xss := fun i hi => by
  obtain ⟨b, off, A', c', e, hd, hc, hr⟩ := h i hi
  exact ⟨b, off, A', c', e, Nat.lt_of_lt_of_le hd hb.size, (hb.cell (p := ⟨b, off + i, none⟩) hd).trans hc, hr.up hb⟩
set_option maxRecDepth 100000 in
set_option maxHeartbeats 1600000 in
theorem concat_any (S : Option Addr) (cS : Nat) (xss : List (List Int)) (w : World) (h : RdN (· < w.heap.size) w S xss) (hn : xss.length ≤ 1000) (hs : lens xss ≤ 1000000) :
    Calls Try.prog 58 #[.slice S xss.length cS] w fun e w' => ∃ A c, e = .returned (.slice A xss.flatten.length c) ∧ Own w' 3 (.slice A xss.flatten.length c) (xss.flatten.map I64) ∧
      (∀ g, (Value.slice A xss.flatten.length c).ownBlock = some g → w.heap.size ≤ g) ∧ Below w.heap.size w w' := by
  obtain ⟨i0, hi, hz0, hz1, hz2⟩ := info_parts info_int
  have HI := Lib.hid (And.intro hi (And.intro hz0 (And.intro hz1 hz2)))
  have H := Lib.hid h
  have HLf := Lib.hid (lens_flat xss)
  clear h hi hz0 hz1 hz2
  go_enter Try.func58, Try.ntmps58
  go_wp2_with fail
  go_loopw [3, 5, 11] (fun sv _ iv wr => ∃ i : Nat, iv = .int .i64 i ∧ i ≤ xss.length ∧ sv = .int .i64 (lens (xss.take i) : Nat) ∧ wr = w) (fun _ _ iv _ => xss.length - (intOf iv).toNat)
  case atStart => exact ⟨0, rfl, Nat.zero_le _, rfl, rfl⟩
  case round =>
    obtain ⟨i, rfl, hi, rfl, hw⟩ := hrel
    replace hw := hw.symm
    subst hw
    by_cases hlt : i < xss.length
    · obtain ⟨b, off, A', c', eS, _, hc, _⟩ := H.out.at_ hlt
      have HS1 := Lib.hid (show lens (xss.take (i + 1)) = lens (xss.take i) + xss[i].length by rw [List.take_succ_eq_append_getElem hlt, lens_snoc])
      have hle : lens (xss.take (i + 1)) ≤ lens xss := lens_take xss (i + 1)
      have hle2 : lens (xss.take i) + xss[i].length ≤ 1000000 := by rw [← HS1.out]; omega
      clear hle
      subst eS
      generalize xss[i].length = k at hc HS1 hle2
      generalize lens (xss.take i) = s0 at HS1 hle2
      go_wp2_with fail
      go_roundw
      case rel => exact ⟨i + 1, by go_num, by omega, by rw [HS1.out]; go_num, trivial⟩
      case measure => simp [intOf]; omega
    · obtain rfl : i = xss.length := by omega
      rw [List.take_length]
      go_wp2_with fail
      refine (grow_any (lens xss) hs w).mono ?_
      rintro e w1 ⟨A1, c1, rfl, ho1, hg1, hb1⟩
      have HO1 := Lib.hid ho1
      have HG1 := Lib.hid hg1
      have HB1 := Lib.hid hb1
      clear ho1 hg1 hb1
      go_wp2_with fail
      go_loopw [6, 8, 27] (fun ov _ iv wr => ∃ (i : Nat) (A : Option Addr) (c : Nat), iv = .int .i64 i ∧ i ≤ xss.length ∧ ov = .slice A (lens (xss.take i)) c ∧ Own wr 3 (.slice A (lens (xss.take i)) c) ((xss.take i).flatten.map I64) ∧ (∀ g, (Value.slice A (lens (xss.take i)) c).ownBlock = some g → w.heap.size ≤ g) ∧ Below w.heap.size w wr) (fun _ _ iv _ => xss.length - (intOf iv).toNat)
      case atStart => exact ⟨0, A1, c1, rfl, Nat.zero_le _, rfl, HO1.out, HG1.out, HB1.out⟩
      case round =>
        obtain ⟨i, A, c, rfl, hi, rfl, ho, hg, hb⟩ := hrel
        have HO := Lib.hid ho
        have HG := Lib.hid hg
        have HB := Lib.hid hb
        clear ho hg hb
        by_cases hlt : i < xss.length
        · obtain ⟨b, off, A', c', eS, _, hc, hr⟩ := (H.out.up HB.out).at_ hlt
          have HR := Lib.hid (SrcAt.of_rd hr)
          have HS1 := Lib.hid (show lens (xss.take (i + 1)) = lens (xss.take i) + xss[i].length by rw [List.take_succ_eq_append_getElem hlt, lens_snoc])
          have HF1 := Lib.hid (show (xss.take (i + 1)).flatten.map I64 = (xss.take i).flatten.map I64 ++ xss[i].map I64 by rw [List.take_succ_eq_append_getElem hlt, List.flatten_append, List.map_append]; simp only [List.flatten_cons, List.flatten_nil, List.append_nil])
          have hle : lens (xss.take (i + 1)) ≤ lens xss := lens_take xss (i + 1)
          have hle2 : lens (xss.take i) + xss[i].length ≤ 1000000 := by rw [← HS1.out]; omega
          have HL1 := Lib.hid (show ((xss.take i).flatten.map I64).length = lens (xss.take i) by rw [List.length_map, lens_flat])
          have HL2 := Lib.hid (show (xss[i].map I64).length = xss[i].length by simp)
          have HC1 := Lib.hid (show ∀ u ∈ xss[i].map I64, u.oneCell' = true from fun u hu => by obtain ⟨x, _, rfl⟩ := List.mem_map.1 hu; rfl)
          clear hle hr
          subst eS
          generalize xss[i].map I64 = news at HR HF1 HL2 HC1
          generalize xss[i].length = k at hc HS1 hle2 HL2
          generalize lens (xss.take i) = s0 at HS1 hle2 HL1 HO HG
          generalize (xss.take i).flatten.map I64 = olds at HO HF1 HL1
          go_wp2_with (at_builtin; refine wpList_appendR wr rfl _ _ 22 rfl 3 i0 (.int .i64 0) 8 Try.underlying22 HI.out.1 HI.out.2.1 HI.out.2.2.1 HI.out.2.2.2 rfl _ olds s0 HL1.out rfl HO.out A' c' news k HL2.out rfl HR.out HC1.out (by unfold maxLen; omega) (by omega) ?_)
          intro A2 c2 w2 ho2 hg2 hat2
          have HO2 := Lib.hid ho2
          have HB2 := Lib.hid (HB.out.grown hg2 HB.out.size (fun k e => HG.out k e))
          have HG2 := Lib.hid (show ∀ g, (Value.slice A2 (s0 + k) c2).ownBlock = some g → w.heap.size ≤ g from fun g hg => (hat2 g hg).elim (fun h => HG.out g h) (fun h => by have := HB.out.size; omega))
          clear ho2 hg2 hat2
          go_wp2_with fail
          go_roundw
          case rel => exact ⟨i + 1, A2, c2, by go_num, by omega, by rw [HS1.out], by rw [HS1.out, HF1.out]; exact HO2.out, by rw [HS1.out]; exact HG2.out, HB2.out⟩
          case measure => simp [intOf]; omega
        · obtain rfl : i = xss.length := by omega
          rw [List.take_length] at HO HG
          go_wp2_with fail
          go_ret
          rw [HLf.out]
          refine ⟨A, c, ?_, HO.out, HG.out, HB.out⟩
          rw [List.take_length]
          rfl
end Go.Proofs.Ytibfgeoiemmjoaa
