/- Lemmas and contracts for the row. -/
import Derived.Test.YtbpbndlgfiammaaGreatDoorPkRowProofTidyT
import Derived.Test.YtbpbndlgfiammaaGreatDoorPkRowProofTidyF
import Derived.Test.YtbpbndlgfiammaaGreatDoorProg
import Derived.Lib.Hide
set_option linter.unusedVariables false
set_option linter.unusedSimpArgs false
set_option linter.unnecessarySimpa false
namespace Go.Proofs.YtbpbndlgfiammaaGreatDoor.En
open Go Go.RowKit
theorem info_int : (Tryz.prog.info? 3).map (fun i => (i.zero, i.size, i.bytes)) = some (some (.int .i64 0), 1, 8) := by kernel_rfl
theorem info_of {ty sz by_ : Nat} {z : Value} (h : (Tryz.prog.info? ty).map (fun i => (i.zero, i.size, i.bytes)) = some (some z, sz, by_)) : ∃ i, Tryz.prog.info? ty = some i ∧ i.zero = some z ∧ i.size = sz ∧ i.bytes = by_ := by
  cases h' : Tryz.prog.info? ty with
  | none => rw [h'] at h; cases h
  | some i => rw [h'] at h; injection h with h; injection h with h1 h2; injection h2 with h2 h3; exact ⟨i, rfl, h1, h2, h3⟩
def NewRow (e : Nat) (w : World) (us : List Value) (en : Ending) (w' : World) : Prop :=
  ∃ A cap, en = .returned (.slice A us.length cap) ∧ Own w' e (.slice A us.length cap) us ∧ Below w.heap.size w w' ∧ ∀ g, (Value.slice A us.length cap).ownBlock = some g → w.heap.size ≤ g
set_option maxHeartbeats 400000 in
theorem clone_nil (c : Nat) (w : World) : Calls Tryz.prog 71 #[.slice none 0 c] w fun e w' => NewRow 3 w [] e w' := by
  have hnil := Lib.run_eql_slice_nil (P := Tryz.prog)
  go_enter Tryz.func71, Tryz.ntmps71
  go_wp2
  go_ret
  exact ⟨none, 0, rfl, Own.nil _ _, Below.refl _ _, fun g h => by simp [Value.ownBlock] at h⟩
set_option maxHeartbeats 400000 in
theorem clone_some (ad : Addr) (c : Nat) (us : List Value) (n : Nat) (hn : us.length = n) (w : World) (h : ∀ j u, us[j]? = some u → w.cell? (ad.add j) = some u) (h1 : ∀ u ∈ us, u.oneCell' = true) (hl : n ≤ 1000000000000) :
    Calls Tryz.prog 71 #[.slice (some ad) n c] w fun e w' => NewRow 3 w us e w' := by
  obtain ⟨i0, hi, hz0, hz1, hz2⟩ := info_of info_int
  have hnil := Lib.run_eql_slice_nil (P := Tryz.prog)
  have HI := Lib.hid (And.intro hi (And.intro hz0 (And.intro hz1 hz2)))
  have hcells : SrcAt (w.alloc (.cells #[] 3)) (some ad) us := .inr ⟨ad, rfl, fun j u hu => by
    have h2 := h j u hu
    rw [World.cell?_alloc_lt w _ _ (World.block_lt_of_cell? w _ h2)]
    exact h2⟩
  have HC := Lib.hid hcells
  have HN := Lib.hid hn
  have H1 := Lib.hid h1
  clear hi hz0 hz1 hz2 h hcells hn h1
  go_enter Tryz.func71, Tryz.ntmps71
  go_wp2_with (at_builtin; refine wpList_appendR _ rfl (.tmp 5) (.tmp 6) 23 rfl 3 i0 (.int .i64 0) 8 Tryz.underlying23 HI.out.1 HI.out.2.1 HI.out.2.2.1 HI.out.2.2.2 rfl _ [] 0 rfl rfl (Own.empty w _) (some ad) c us n HN.out rfl HC.out H1.out (by unfold maxLen; omega) (by omega) ?_)
  intro A cap w1 h1 h2 h3
  have H1 := Lib.hid h1
  have H2 := Lib.hid h2
  have H3 := Lib.hid h3
  clear h1 h2 h3
  go_wp2
  go_ret
  have HN' := HN.out
  subst HN'
  refine ⟨A, cap, rfl, H1.out, ?_, ?_⟩
  · exact (((Kp.refl (fun _ => False) w).alloc _).grown H2.out (fun g e hg => by simp [Value.ownBlock] at e; omega)).none_below
  · intro g hg
    rcases H3.out g hg with e | e
    · simp [Value.ownBlock] at e; omega
    · omega
theorem rep_src {W : World} {G : Nat → Prop} {l : LD} {v : Value} (hf : isFlat1 l = true) (h : Rep W G (.ls l) v) : ∃ A c, v = .slice A l.len c ∧ (A = none → l.len = 0) ∧ ∀ ad, A = some ad → ∀ j u, (encL l)[j]? = some u → W.cell? (ad.add j) = some u := by
  obtain ⟨hn, hst⟩ := encL_len hf
  rcases h.cases_ls with ⟨h0, A, c, rfl⟩ | ⟨b, off, c, u, rfl, h1, h2, h3, h4, h5⟩
  · refine ⟨A, c, by rw [h0], fun _ => h0, fun ad _ j u hj => ?_⟩
    have := (List.getElem?_eq_some_iff.1 hj).1
    omega
  · refine ⟨some ⟨b, off, none⟩, c, rfl, (fun h => by cases h), fun ad had j y hj => ?_⟩
    injection had with had
    subst had
    obtain ⟨hj1, hj2⟩ := List.getElem?_eq_some_iff.1 hj
    rw [hn] at hj1
    have hc := h4 j 0 hj1 (by omega)
    have he : (List.range l.len).map (fun i => u i 0) = encL l := encL_of (W := W) (G := G) hf (by simp) (fun i hi => by
      have := h5 i 0 hi (by omega)
      simpa [List.getD, hi] using this)
    rw [add_mk, ← hj2]
    rw [hst] at hc
    simp only [Nat.mul_one, Nat.add_zero] at hc
    rw [hc]
    simp [← he]
theorem flat_one {l : LD} (hf : isFlat1 l = true) : ∀ u ∈ encL l, u.oneCell' = true := by
  intro u hu
  cases l <;> simp [isFlat1] at hf <;> (simp only [encL, List.mem_map] at hu; obtain ⟨x, _, rfl⟩ := hu; rfl)
def sClone : CtF := fun args os => match args, os with
  | [.im (.ls (.ints xs))], [] => some (xs.length ≤ 1000000000000, .row 0, [some (.row 3 (.ints xs))])
  | _, _ => none
theorem sClone_sound : Sound Tryz.prog 71 sClone := by
  refine sound_new (e := 3) (run_enters Tryz.func71 (by kernel_rfl) rfl) fun args os p r outs h => ?_
  unfold sClone at h
  split at h
  · rename_i xs
    injection h with h
    injection h with h1 h
    injection h with h2 h3
    subst h1 h2 h3
    refine ⟨.ints xs, rfl, rfl, rfl, rfl, fun hp => ⟨by show xs.length ≤ maxLen; unfold maxLen; omega, fun W G vs hG _ hd => ?_⟩⟩
    simp only [DenL] at hd
    obtain ⟨v, vs', rfl, hd0, hd1⟩ := hd
    subst hd1
    have hr : Rep W G (.ls (.ints xs)) v := hd0
    obtain ⟨A, c, rfl, hA, hs⟩ := rep_src (l := .ints xs) rfl hr
    have hn := (encL_len (l := .ints xs) rfl).1
    have fin : ∀ us, us = encL (.ints xs) → ∀ e' W', NewRow 3 W us e' W' → ∃ v', e' = .returned v' ∧ Own W' 3 v' (encL (.ints xs)) ∧ Below W.heap.size W W' ∧ ∀ b, v'.ownBlock = some b → W.heap.size ≤ b := by
      rintro us rfl e' W' ⟨A', cap, rfl, h1, h2, h3⟩
      exact ⟨_, rfl, h1, h2, h3⟩
    cases A with
    | none =>
      have h0 : xs = [] := List.eq_nil_of_length_eq_zero (hA rfl)
      subst h0
      exact (clone_nil c W).mono (fin [] rfl)
    | some ad => exact (clone_some ad c _ xs.length hn W (hs ad rfl) (flat_one rfl) hp).mono (fin _ rfl)
  · cases h
end Go.Proofs.YtbpbndlgfiammaaGreatDoor.En
