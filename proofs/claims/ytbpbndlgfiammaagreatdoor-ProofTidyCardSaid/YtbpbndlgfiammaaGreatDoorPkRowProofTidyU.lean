/- Lemmas and contracts for the row. -/
import Derived.Test.YtbpbndlgfiammaaGreatDoorPkRowProofTidyT
import Derived.Test.YtbpbndlgfiammaaGreatDoorPkRowProofTidyI
import Derived.Test.YtbpbndlgfiammaaGreatDoorPkRowProofTidyO
import Derived.Lib.Hide
set_option linter.unusedVariables false
set_option linter.unusedSimpArgs false
set_option linter.unnecessarySimpa false
namespace Go.Proofs.YtbpbndlgfiammaaGreatDoor.En
open Go Go.RowKit Go.Sort Go.Shelf
theorem sound_rowR {P : Program} {f e : Nat} {σ : CtF} (hen : ∀ args W, (callFunc f args).run P W = .ok (.enter f args) W)
    (h : ∀ args os p r outs, σ args os = some (p, r, outs) → ∃ avs l l', args = .row 0 :: avs ∧ os = [.row e l] ∧ r = .row 1 ∧ outs = [none, some (.row e l')] ∧ pureL avs = true ∧ l.st = 1 ∧ l'.st = 1 ∧
      (p → l'.len ≤ maxLen ∧ ∀ (W : World) (G : Nat → Prop) (v : Value) (vs us : List Value), (∀ b, G b → b < W.heap.size) → (∀ b, v.ownBlock = some b → ¬ G b) → GlOk (g0 W G) → Own W e v us → us.length = l.len → (∀ i, i < l.len → Rep W G (l.cell i 0) (us.getD i undef)) → l.len ≤ maxLen → DenL (g0 W G) avs vs →
        Calls P f (v :: vs).toArray W fun e' W' => ∃ v' us', e' = .returned v' ∧ Own W' e v' us' ∧ us'.length = l'.len ∧ (∀ i, i < l'.len → Rep W G (l'.cell i 0) (us'.getD i undef)) ∧ W.grownBy W' v.ownBlock ∧ ∀ b, v'.ownBlock = some b → v.ownBlock = some b ∨ W.heap.size ≤ b)) : Sound P f σ := by
  refine ⟨hen, fun g args os vs p r outs hσ hp hm hU hd => ?_⟩
  obtain ⟨avs, l, l', rfl, rfl, rfl, rfl, hpu, hst, hst', hcall⟩ := h args os p r outs hσ
  obtain ⟨hmx', hcall⟩ := hcall hp
  simp only [DenL] at hd
  obtain ⟨v, vs', rfl, hd0, hd1⟩ := hd
  simp only [Den] at hd0
  obtain ⟨hu0, hv, _⟩ := hd0
  obtain ⟨_, xs, ho, hmx, hc⟩ := hm.ok 0 (.row e l) rfl
  rw [hst] at ho
  obtain ⟨ho1, hxl⟩ := ho.one
  rw [← hv] at ho1
  have hblk : blkOf v = v.ownBlock := own_blk ho1
  have hnU : ¬ g.U 1 := fun hu => by have := hU 1 hu; simp at this
  refine Calls.mono (hcall g.W g.G v vs' xs (fun b hb => (hm.gb b hb).1) (fun b hb => (hm.own 0 _ b rfl (by rw [← hv, hblk]; exact hb)).1) (fun kk ys hk => hm.anc.2 kk ys hk) ho1 hxl (fun i hi => by have := hc i 0 hi (by omega); rwa [hst, Nat.mul_one, Nat.add_zero] at this) hmx (DenL.pure (g := g) (g' := g0 g.W g.G) rfl rfl _ _ hpu hd1)) fun e' W' he => ?_
  obtain ⟨v', us', rfl, ho', hn', hc', hg, hb'⟩ := he
  have hgood := good_rowL (nm := 1) (e := e) (l := l') (v := v') (xs := us') (W' := W') (ob := v.ownBlock) (H' := outsH [none, some (.row e l')]) hm hnU hg (fun b hb => hm.own 0 _ b rfl (by rw [← hv, hblk]; exact hb)) (fun x o hx => ?_)
    (by rw [hst']; exact .of_one ho' hn') hmx' (fun i j hi hj => by
      rw [hst'] at hj ⊢
      have : j = 0 := by omega
      subst this
      rw [Nat.mul_one, Nat.add_zero]
      exact hc' i hi) (fun b hb => by rw [own_blk ho'] at hb; exact hb' b hb)
  · obtain ⟨g', h1, h2, _, h4, h5⟩ := hgood
    exact ⟨v', g', rfl, h1, h2, h4, h5⟩
  · match x, hx with
    | 1, hx => left; simp [outsH] at hx; exact ⟨rfl, hx.symm⟩
    | 0, hx => simp [outsH] at hx
    | n + 2, hx => simp [outsH] at hx
theorem sound_newR {P : Program} {f e : Nat} {σ : CtF} (hen : ∀ args W, (callFunc f args).run P W = .ok (.enter f args) W)
    (h : ∀ args os p r outs, σ args os = some (p, r, outs) → ∃ l', os = [] ∧ r = .row 0 ∧ outs = [some (.row e l')] ∧ l'.st = 1 ∧
      (p → l'.len ≤ maxLen ∧ ∀ (W : World) (G : Nat → Prop) (vs : List Value), (∀ b, G b → b < W.heap.size) → GlOk (g0 W G) → DenL (g0 W G) args vs →
        Calls P f vs.toArray W fun e' W' => ∃ v' us', e' = .returned v' ∧ Own W' e v' us' ∧ us'.length = l'.len ∧ (∀ i, i < l'.len → Rep W G (l'.cell i 0) (us'.getD i undef)) ∧ Below W.heap.size W W' ∧ ∀ b, v'.ownBlock = some b → W.heap.size ≤ b)) : Sound P f σ := by
  refine ⟨hen, fun g args os vs p r outs hσ hp hm hU hd => ?_⟩
  obtain ⟨l', rfl, rfl, rfl, hst', hcall⟩ := h args os p r outs hσ
  obtain ⟨hmx', hcall⟩ := hcall hp
  have hU' : ∀ r, ¬ g.U r := fun r hr => absurd (hU r hr) (by simp)
  have hd' : DenL (g0 g.W g.G) args vs := by
    have := DenL.map (f := id) (g := g) (g' := g0 g.W g.G) rfl rfl args vs (fun r _ hu => absurd hu (hU' r)) hd
    rwa [mapRL_id] at this
  refine Calls.mono (hcall g.W g.G vs (fun b hb => (hm.gb b hb).1) (fun kk ys hk => hm.anc.2 kk ys hk) hd') fun e' W' he => ?_
  obtain ⟨v', us', rfl, ho', hn', hc', hb, hnew⟩ := he
  let g' : Gh := ⟨W', g.G, fun r => if r = 0 then v' else g.β r, fun r => g.U r ∨ r = 0⟩
  have hle : g.le g' := ⟨fun b hg => hb.block b (hm.gb b hg).1, fun _ hb => hb, fun r hr => absurd hr (hU' r)⟩
  have hlk : ∀ x o, outsH [some (.row e l')] x = some o → x = 0 ∧ o = .row e l' := by
    intro x o hx
    match x, hx with
    | 0, hx => simp [outsH] at hx; exact ⟨rfl, hx.symm⟩
    | n + 1, hx => simp [outsH] at hx
  have hb0 : g'.β 0 = v' := by show (if (0 : Nat) = 0 then v' else g.β 0) = v'; rw [if_pos rfl]
  obtain ⟨A, cap, hform, _⟩ := ho'.form
  refine ⟨v', g', rfl, rfl, hle, ⟨fun x o hx => ?_, fun x x' o o' b hx hx' _ _ => (hlk x o hx).1.trans (hlk x' o' hx').1.symm, fun x o b hx hbk => ?_, fun b hg => ⟨Nat.lt_of_lt_of_le (hm.gb b hg).1 hb.size, (hm.gb b hg).2⟩, ⟨hb.os, hb.tape, hb.output, hb.size, fun b hlt _ => hb.block b hlt⟩, fun r hr => absurd hr (by simp), hm.anc.2.up hle⟩, ?_⟩
  · obtain ⟨rfl, rfl⟩ := hlk x o hx
    refine ⟨.inr rfl, ?_⟩
    rw [hb0]
    exact ⟨us', by rw [hst']; exact .of_one ho' hn', hmx', fun i j hi hj => by
      rw [hst'] at hj ⊢
      have : j = 0 := by omega
      subst this
      rw [Nat.mul_one, Nat.add_zero]
      exact hle.rep (hc' i hi)⟩
  · obtain ⟨rfl, rfl⟩ := hlk x o hx
    rw [hb0, own_blk ho'] at hbk
    have := hnew b hbk
    exact ⟨fun hg => by have := (hm.gb b hg).1; omega, .inl this⟩
  · simp only [Den]
    exact ⟨.inr rfl, hb0.symm, .inl ⟨A, _, cap, hform⟩⟩
theorem info_ints : (Tryz.prog.info? 23).map (fun i => (i.zero, i.size, i.bytes)) = some (some (.slice none 0 0), 1, 24) := by kernel_rfl
theorem info_ofL {ty sz by_ : Nat} {z : Value} (h : (Tryz.prog.info? ty).map (fun i => (i.zero, i.size, i.bytes)) = some (some z, sz, by_)) : ∃ i, Tryz.prog.info? ty = some i ∧ i.zero = some z ∧ i.size = sz ∧ i.bytes = by_ := by
  cases h' : Tryz.prog.info? ty with
  | none => rw [h'] at h; cases h
  | some i => rw [h'] at h; injection h with h; injection h with h1 h2; injection h2 with h2 h3; exact ⟨i, rfl, h1, h2, h3⟩
def NewRowL (e : Nat) (w : World) (us : List Value) (en : Ending) (w' : World) : Prop :=
  ∃ A cap, en = .returned (.slice A us.length cap) ∧ Own w' e (.slice A us.length cap) us ∧ Below w.heap.size w w' ∧ ∀ g, (Value.slice A us.length cap).ownBlock = some g → w.heap.size ≤ g
set_option maxHeartbeats 400000 in
theorem cloneL_nil (c : Nat) (w : World) : Calls Tryz.prog 37 #[.slice none 0 c] w fun e w' => NewRowL 23 w [] e w' := by
  have hnil := Lib.run_eql_slice_nil (P := Tryz.prog)
  go_enter Tryz.func37, Tryz.ntmps37
  go_wp2
  go_ret
  exact ⟨none, 0, rfl, Own.nil _ _, Below.refl _ _, fun g h => by simp [Value.ownBlock] at h⟩
set_option maxHeartbeats 400000 in
theorem cloneL_some (ad : Addr) (c : Nat) (us : List Value) (n : Nat) (hn : us.length = n) (w : World) (h : ∀ j u, us[j]? = some u → w.cell? (ad.add j) = some u) (h1 : ∀ u ∈ us, u.oneCell' = true) (hl : n ≤ 1000000000000) :
    Calls Tryz.prog 37 #[.slice (some ad) n c] w fun e w' => NewRowL 23 w us e w' := by
  obtain ⟨i0, hi, hz0, hz1, hz2⟩ := info_ofL info_ints
  have hnil := Lib.run_eql_slice_nil (P := Tryz.prog)
  have HI := Lib.hid (And.intro hi (And.intro hz0 (And.intro hz1 hz2)))
  have hcells : SrcAt (w.alloc (.cells #[] 23)) (some ad) us := .inr ⟨ad, rfl, fun j u hu => by
    have h2 := h j u hu
    rw [World.cell?_alloc_lt w _ _ (World.block_lt_of_cell? w _ h2)]
    exact h2⟩
  have HC := Lib.hid hcells
  have HN := Lib.hid hn
  have H1 := Lib.hid h1
  clear hi hz0 hz1 hz2 h hcells hn h1
  go_enter Tryz.func37, Tryz.ntmps37
  go_wp2_with (at_builtin; refine wpList_appendR _ rfl (.tmp 5) (.tmp 6) 22 rfl 23 i0 (.slice none 0 0) 24 Tryz.underlying22 HI.out.1 HI.out.2.1 HI.out.2.2.1 HI.out.2.2.2 rfl _ [] 0 rfl rfl (Own.empty w _) (some ad) c us n HN.out rfl HC.out H1.out (by unfold maxLen; omega) (by omega) ?_)
  intro A cap w1 h1 h2 h3
  have H1 := Lib.hid h1
  have H2 := Lib.hid h2
  have H3 := Lib.hid h3
  clear h1 h2 h3
  go_wp2
  go_ret
  have HN' := HN.out
  subst HN'
  refine ⟨A, cap, rfl, H1.out, ?_, ?_⟩
  · exact (((Kp.refl (fun _ => False) w).alloc _).grown H2.out (fun g e hg => by simp [Value.ownBlock] at e; omega)).none_below
  · intro g hg
    rcases H3.out g hg with e | e
    · simp [Value.ownBlock] at e; omega
    · omega
theorem intss_one {W : World} {G : Nat → Prop} {xs : List (List Int)} {i : Nat} {u : Value} (h : Rep W G ((LD.intss xs).cell i 0) u) : u.oneCell' = true := cell_one (l := .intss xs) (i := i) (j := 0) h
def sCloneL : CtF := fun args os => match args, os with
  | [.im (.ls (.intss xs))], [] => some (xs.length ≤ 1000000000000, .row 0, [some (.row 23 (.intss xs))])
  | _, _ => none
theorem sCloneL_sound : Sound Tryz.prog 37 sCloneL := by
  refine sound_newR (e := 23) (run_enters Tryz.func37 (by kernel_rfl) rfl) fun args os p r outs h => ?_
  unfold sCloneL at h
  split at h
  · rename_i xs
    injection h with h
    injection h with h1 h
    injection h with h2 h3
    subst h1 h2 h3
    refine ⟨.intss xs, rfl, rfl, rfl, rfl, fun hp => ⟨by show xs.length ≤ maxLen; unfold maxLen; omega, fun W G vs hG _ hd => ?_⟩⟩
    simp only [DenL] at hd
    obtain ⟨v, vs', rfl, hd0, hd1⟩ := hd
    subst hd1
    have hr : Rep W G (.ls (.intss xs)) v := hd0
    rcases hr.cases_ls with ⟨h0, A, c, rfl⟩ | ⟨b, off, c, u, rfl, h1, h2, h3, h4, h5⟩
    · have h0' : xs = [] := List.eq_nil_of_length_eq_zero h0
      subst h0'
      cases A with
      | none =>
        refine (cloneL_nil c W).mono ?_
        rintro e' W' ⟨A', cap, rfl, q1, q2, q3⟩
        exact ⟨_, [], rfl, q1, rfl, fun i hi => absurd hi (Nat.not_lt_zero i), q2, q3⟩
      | some ad =>
        refine (cloneL_some ad c [] 0 rfl W (fun j u hu => by simp at hu) (fun u hu => by simp at hu) (by omega)).mono ?_
        rintro e' W' ⟨A', cap, rfl, q1, q2, q3⟩
        exact ⟨_, [], rfl, q1, rfl, fun i hi => absurd hi (Nat.not_lt_zero i), q2, q3⟩
    · have hst : (LD.intss xs).st = 1 := rfl
      have hlen : (LD.intss xs).len = xs.length := rfl
      let us := (List.range xs.length).map fun i => u i 0
      have hul : us.length = xs.length := by simp [us]
      have hug : ∀ i, i < xs.length → us[i]? = some (u i 0) := fun i hi => by simp [us, hi]
      have hrep : ∀ i, i < xs.length → Rep W G ((LD.intss xs).cell i 0) (us.getD i undef) := fun i hi => by
        rw [List.getD_eq_getElem?_getD, hug i hi]
        exact h5 i 0 hi (by rw [hst]; omega)
      refine (cloneL_some ⟨b, off, none⟩ c us xs.length hul W (fun j y hj => ?_) (fun y hy => ?_) hp).mono ?_
      · have hj1 : j < xs.length := by rw [← hul]; exact (List.getElem?_eq_some_iff.1 hj).1
        rw [hug j hj1] at hj
        cases hj
        have := h4 j 0 hj1 (by rw [hst]; omega)
        rw [hst, Nat.mul_one, Nat.add_zero] at this
        rw [add_mk]
        exact this
      · obtain ⟨i, hi, rfl⟩ := List.mem_iff_getElem.1 hy
        have hi' : i < xs.length := by rw [← hul]; exact hi
        have := hrep i hi'
        rw [List.getD_eq_getElem?_getD, List.getElem?_eq_getElem hi] at this
        exact intss_one this
      · rintro e' W' ⟨A', cap, rfl, q1, q2, q3⟩
        exact ⟨_, us, rfl, q1, hul, hrep, q2, q3⟩
  · cases h
abbrev OneV := { v : Value // v.oneCell' = true }
instance : Inhabited OneV := ⟨⟨.slice none 0 0, rfl⟩⟩
def encO (x : OneV) : Value := x.1
theorem oneO : OneCell encO := fun x => x.2
def sDelL : CtF := fun args os => match args, os with
  | [.row 0, .im (.val (.int .i64 i)), .im (.val (.int .i64 j))], [.row 23 (.intss xs)] => some (0 ≤ i ∧ i < j ∧ j ≤ xs.length ∧ xs.length ≤ 1000000000000, .row 1, [none, some (.row 23 (.intss (xs.take i.toNat ++ xs.drop j.toNat)))])
  | _, _ => none
theorem sDelL_sound : Sound Tryz.prog 39 sDelL := by
  refine sound_rowR (e := 23) (run_enters Tryz.func39 (by kernel_rfl) rfl) fun args os p r outs h => ?_
  unfold sDelL at h
  split at h
  · rename_i i j xs
    injection h with h
    injection h with h1 h
    injection h with h2 h3
    subst h1 h2 h3
    refine ⟨_, .intss xs, .intss (xs.take i.toNat ++ xs.drop j.toNat), rfl, rfl, rfl, rfl, rfl, rfl, rfl, fun hp => ⟨?_, fun W G v vs us hG hn _ ho hul hrep hmx hd => ?_⟩⟩
    · show (xs.take i.toNat ++ xs.drop j.toNat).length ≤ maxLen
      simp only [List.length_append, List.length_take, List.length_drop]
      unfold maxLen; omega
    · obtain ⟨hp1, hp2, hp3, hp4⟩ := hp
      obtain ⟨u1, u2, rfl, d1, d2⟩ := denL2 hd
      rw [den_val d1, den_val d2]
      have hul' : us.length = xs.length := hul
      have hone : ∀ u ∈ us, u.oneCell' = true := fun y hy => by
        obtain ⟨k, hk, rfl⟩ := List.mem_iff_getElem.1 hy
        have := hrep k (by show k < xs.length; omega)
        rw [List.getD_eq_getElem?_getD, List.getElem?_eq_getElem hk] at this
        exact intss_one this
      obtain ⟨A, cap, hform, _⟩ := ho.form
      subst hform
      obtain ⟨g, off, rfl⟩ := ho.addr (by omega)
      obtain ⟨cur, k1, k2, k3, k4, _⟩ := ho.cur rfl
      let ds : List OneV := us.pmap Subtype.mk hone
      have hds : ds.map encO = us := by simp [ds, encO, List.map_pmap]
      have hdl : ds.length = us.length := by simp [ds]
      have hol : Own W 23 (.slice (some ⟨g, off, none⟩) us.length cap) (ds.map encO) := by rw [hds]; exact ho
      obtain ⟨i0, hi, hz0, hz1, hz2⟩ := info_ofL info_ints
      have h := AnyE.slices_Delete Tryz.shDelL encO oneO ⟨.slice none 0 0, rfl⟩ (fun w => Tryz.zeroValue23 w) i0 hi hz1 g off cap i.toNat j.toNat ds.toArray W (own_holds hol) (by simp [hdl]; omega) (by unfold maxLen at k3; omega) (by omega) (by simp [hdl]; omega)
      simp only [List.size_toArray, hdl] at h
      rw [show ((i.toNat : Nat) : Int) = i by omega, show ((j.toNat : Nat) : Int) = j by omega] at h
      refine Calls.mono h ?_
      rintro e' w' ⟨rfl, q, rfl⟩
      have hps : ∀ d : Array OneV, putRow encO (Sort.ahead W q) g off d = sortWorld encO W g off q d #[] := fun d => by unfold sortWorld; rw [grow_empty]
      rw [hps]
      have hml : (ds.take i.toNat ++ ds.drop j.toNat).length = us.length - (j.toNat - i.toNat) := by simp only [List.length_append, List.length_take, List.length_drop]; omega
      have h5 := sort_own hol q #[] (ys := ds.take i.toNat ++ ds.drop j.toNat ++ List.replicate (j.toNat - i.toNat) ⟨.slice none 0 0, rfl⟩) (by simp only [List.length_append, List.length_take, List.length_drop, List.length_replicate]; omega) (m := us.length - (j.toNat - i.toNat)) (by simp only [List.length_append, List.length_take, List.length_drop, List.length_replicate]; omega)
      rw [List.take_left' hml] at h5
      have h6 : (ds.take i.toNat ++ ds.drop j.toNat).map encO = us.take i.toNat ++ us.drop j.toNat := by rw [List.map_append, List.map_take, List.map_drop, hds]
      rw [h6] at h5
      refine ⟨_, us.take i.toNat ++ us.drop j.toNat, rfl, h5, ?_, fun k hk => ?_, ?_, fun b hb => .inl hb⟩
      · show (us.take i.toNat ++ us.drop j.toNat).length = (xs.take i.toNat ++ xs.drop j.toNat).length
        simp only [List.length_append, List.length_take, List.length_drop]; omega
      · have hk' : k < (xs.take i.toNat ++ xs.drop j.toNat).length := hk
        simp only [List.length_append, List.length_take, List.length_drop] at hk'
        show Rep W G (.ls (.ints ((xs.take i.toNat ++ xs.drop j.toNat).getD k []))) _
        have hcell : ∀ k', k' < xs.length → Rep W G (.ls (.ints (xs.getD k' []))) (us.getD k' undef) := fun k' hk' => hrep k' hk'
        by_cases hki : k < i.toNat
        · have e1 : (xs.take i.toNat ++ xs.drop j.toNat).getD k [] = xs.getD k [] := by
            rw [List.getD_eq_getElem?_getD, List.getElem?_append_left (by simp; omega), List.getElem?_take_of_lt hki, ← List.getD_eq_getElem?_getD]
          have e2 : (us.take i.toNat ++ us.drop j.toNat).getD k undef = us.getD k undef := by
            rw [List.getD_eq_getElem?_getD, List.getElem?_append_left (by simp; omega), List.getElem?_take_of_lt hki, ← List.getD_eq_getElem?_getD]
          rw [e1, e2]
          exact hcell k (by omega)
        · have l1 : (xs.take i.toNat).length = i.toNat := by rw [List.length_take]; omega
          have l2 : (us.take i.toNat).length = i.toNat := by rw [List.length_take]; omega
          have e1 : (xs.take i.toNat ++ xs.drop j.toNat).getD k [] = xs.getD (j.toNat + (k - i.toNat)) [] := by
            rw [List.getD_eq_getElem?_getD, List.getElem?_append_right (by omega), l1, List.getElem?_drop, ← List.getD_eq_getElem?_getD]
          have e2 : (us.take i.toNat ++ us.drop j.toNat).getD k undef = us.getD (j.toNat + (k - i.toNat)) undef := by
            rw [List.getD_eq_getElem?_getD, List.getElem?_append_right (by omega), l2, List.getElem?_drop, ← List.getD_eq_getElem?_getD]
          rw [e1, e2]
          exact hcell _ (by omega)
      · have hk := sort_kp (enc := encO) (w := W) (g := g) (off := off) q (ds.take i.toNat ++ ds.drop j.toNat ++ List.replicate (j.toNat - i.toNat) (⟨.slice none 0 0, rfl⟩ : OneV)).toArray #[]
        exact ⟨hk.os, hk.tape, hk.output, hk.size, fun b hb hn => hk.block b hb (fun e => hn (by rw [e]; rfl))⟩
  · cases h
end Go.Proofs.YtbpbndlgfiammaaGreatDoor.En
