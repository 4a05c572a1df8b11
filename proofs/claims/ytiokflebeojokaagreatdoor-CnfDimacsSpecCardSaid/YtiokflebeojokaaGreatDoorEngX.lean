/- A range over a function, walked by hand: the statement, and a round. Plain lemmas; no condition beyond their own hypotheses. -/
import Derived.Test.YtiokflebeojokaaGreatDoorEngR
set_option linter.unusedSimpArgs false
set_option linter.unusedVariables false
set_option linter.unnecessarySimpa false
namespace Go.Proofs.YtiokflebeojokaaGreatDoor.En
open Go Go.RowKit

/-- A ROUND: the assignment, then the body, walked in the round's frame -/
theorem yield_x {P : Program} {l : Nat} {r : Loop} {args : Array Value} {W : World} {R : Ending → World → Prop} (hl : W.heap[l]? = some (.loop r)) (hs : args.size = r.params.size) (hr : r.state = .ready)
    (h : r.assign.wpIn (FR (some l)) 2 P (fun e a2 W2 => e = .normal ∧ W2.heap[l]? = some (.loop r) ∧ r.body.wpIn (FR (some l)) 2 P (fun e a3 W3 => ∃ r3 : Loop, W3.heap[l]? = some (.loop r3) ∧
        ((e = .normal ∧ R (.returned (.bool true)) (W3.putObj l (.loop { r3 with state := .ready, pending := none }))) ∨
         (e = .ret ∧ R (.returned (.bool false)) (W3.putObj l (.loop { r3 with state := .done, pending := some .ret }))))) a2 (W2.putObj l (.loop { r with state := .busy })))
      { tmps := (r.params.zip args).foldl (fun tmps (x : Nat × Value) => tmps.setIfInBounds x.1 x.2) r.tmps, defers := [] } W) : YieldAt (FR none) 2 P l args W R := by
  refine ⟨r.fn, _, r.assign, r.body, run_yield hl hs, roundIn_of_wpIn (F := FR none) trivial ?_⟩
  refine wpIn_mono (F := FR (some l)) h ?_
  rintro e a2 W2 ⟨rfl, h2, hb⟩
  refine ⟨_, run_beginRound h2 hr, ?_⟩
  refine wpIn_mono (F := FR (some l)) hb ?_
  rintro e a3 W3 ⟨r3, h3, ⟨rfl, hR⟩ | ⟨rfl, hR⟩⟩
  · exact ⟨_, _, run_endRound (P := P) none h3, hR⟩
  · exact ⟨_, _, run_endRound (P := P) (some .ret) h3, hR⟩

/-- .. of an iterator that keeps state of its own in the blocks S0, which lie as they lay at w -/
def SeqXS (P : Program) (gf : Nat) (lb : Array Value) (KR : World → World → Prop) (S0 : Nat → Prop) (N : Nat) (X : Nat → Array Value → Prop) (w : World) : Prop :=
  ∀ (l : Nat) (J Jx : Nat → (Nat → Prop) → World → Prop) (Z : Nat → Prop) (W : World), KR w W → (∀ b, S0 b → Z b ∧ W.heap[b]? = w.heap[b]?) →
    (∀ i Z W W', J i Z W → Kp Z W W' → J i (grew Z W W') W') → (∀ i Z W W', Jx i Z W → Kp Z W W' → Jx i (grew Z W W') W') →
    (∀ i Z W1 v, i < N → J i Z W1 → X i v → YieldAt (FR none) 2 P l v W1 fun e W' =>
      ((e = .returned (.bool true) ∧ J (i + 1) Z W') ∨ (e = .returned (.bool false) ∧ Jx (i + 1) Z W')) ∧ KR W1 W' ∧ (∀ b, Z b → W'.heap[b]? = W1.heap[b]?) ∧ W1.heap.size ≤ W'.heap.size) →
    J 0 Z W → Calls P gf (#[.func (.yield l) #[] #[]] ++ lb) W fun e W' => (∃ v, e = .returned v) ∧ ((∃ Z, J N Z W') ∨ ∃ i Z, Jx i Z W')
theorem SeqX.s {P : Program} {gf : Nat} {lb : Array Value} {KR : World → World → Prop} {N : Nat} {xs : Nat → Array Value} {w : World} (h : SeqX P gf lb KR N xs w) (S0 : Nat → Prop) : SeqXS P gf lb KR S0 N (fun i v => v = xs i) w :=
  fun l J Jx Z W h1 _ h2 h3 h4 h5 => h l J Jx Z W h1 h2 h3 (fun i Z W1 hi hj => h4 i Z W1 _ hi hj rfl) h5
/-- A RANGE OVER A FUNCTION, walked by hand. J, Jx: what the caller knows between two rounds, and behind a round that has returned; S: the iterator's own blocks among Z -/
theorem range_xD {P : Program} {gop : Operand} {ps : Array Nat} {assign body : Code} {Q : Exit → Act → World → Prop} {a : Act} {W : World} {gf : Nat} {lb : Array Value} {N : Nat} {X : Nat → Array Value → Prop} {G : Nat → Prop}
    (hen : ∀ args W, (callFunc gf args).run P W = .ok (.enter gf args) W) (hgop : a.eval gop = .func (.func gf) #[] lb) {S : Nat → Prop} (hseq : SeqXS P gf lb (KRG G) S N X W) (hG : ∀ b, G b → b < W.heap.size) (hps : ∀ i v, i < N → X i v → v.size = ps.size)
    (J : Nat → (Nat → Prop) → World → Prop) (hJ : ∀ i Z W W', J i Z W → Kp Z W W' → J i (grew Z W W') W') (Jx : (Nat → Prop) → World → Prop) (hJx : ∀ Z W W', Jx Z W → Kp Z W W' → Jx (grew Z W W') W')
    (Z : Nat → Prop) (hSZ : ∀ b, S b → Z b) (hGS : ∀ b, G b → ¬ S b) (hSlt : ∀ b, S b → b < W.heap.size) (h0 : J 0 Z W)
    (hbody : ∀ (rec : Loop) i Zi Wi l v, i < N → X i v → J i Zi Wi → (∀ b, Z b → Zi b) → Zi l → W.heap.size ≤ l → Wi.heap[l]? = some (.loop rec) → rec.state = .ready → rec.tmps = a.tmps → rec.params = ps → rec.body = body → KRG G W Wi → (∀ b, Z b → b < W.heap.size → ¬ S b → Wi.heap[b]? = W.heap[b]?) → W.heap.size ≤ Wi.heap.size →
      assign.wpIn (FR (some l)) 2 P (fun e a2 W2 => e = .normal ∧ W2.heap[l]? = some (.loop rec) ∧ body.wpIn (FR (some l)) 2 P (fun e a3 W3 =>
        KRG G Wi W3 ∧ Wi.heap.size ≤ W3.heap.size ∧ (∀ b, Zi b → b < Wi.heap.size → b ≠ l → W3.heap[b]? = Wi.heap[b]?) ∧ W3.heap[l]? = some (.loop { rec with state := .busy }) ∧ ∃ Z3, (∀ b, Zi b → Z3 b) ∧
          ((e = .normal ∧ J (i + 1) Z3 W3) ∨ (e = .ret ∧ Jx Z3 W3))) a2 (W2.putObj l (.loop { rec with state := .busy })))
        { tmps := (ps.zip v).foldl (fun tmps (x : Nat × Value) => tmps.setIfInBounds x.1 x.2) a.tmps, defers := [] } Wi)
    (hdone : ∀ D Z' W', J N Z' W' → (∀ b, Z b → Z' b) → KRG G W W' → (∀ b, Z b → b < W.heap.size → ¬ S b → W'.heap[b]? = W.heap[b]?) → W.heap.size ≤ W'.heap.size → W'.heap[D]? = some dfr → Z' D → W.heap.size ≤ D → Q .normal { a with defers := mkD D :: a.defers } W')
    (hret : ∀ D Z' W', Jx Z' W' → (∀ b, Z b → Z' b) → KRG G W W' → (∀ b, Z b → b < W.heap.size → ¬ S b → W'.heap[b]? = W.heap[b]?) → W.heap.size ≤ W'.heap.size → W'.heap[D]? = some dfr → Z' D → W.heap.size ≤ D → Q .ret { a with defers := mkD D :: a.defers } W') :
    (Code.rangeFunc gop ps assign body).wpIn (FR none) 3 P Q a W := by
  refine wpIn_rangeFunc ?_
  intro fn _
  obtain ⟨rec, hrec⟩ : ∃ rec : LoopState → Option Code → Loop, rec = fun st pe => { state := st, pending := pe, fn, tmps := a.tmps, params := ps, assign, body, defers := W.heap.size } := ⟨_, rfl⟩
  obtain ⟨L, hL⟩ : ∃ L, L = (W.heap.size + 1) := ⟨_, rfl⟩
  obtain ⟨W1, hW1⟩ : ∃ W1, (W.alloc dfr).alloc (.loop (rec .ready none)) = W1 := ⟨_, rfl⟩
  have hL1 : W1.heap[L]? = some (.loop (rec .ready none)) := by
    rw [← hW1, hL]; have := World.alloc_heap_new (W.alloc dfr) (.loop (rec .ready none)); rwa [World.size_alloc] at this
  have hK1 : W1.heap[W.heap.size]? = some dfr := by
    rw [← hW1]; exact (Below.heap_alloc _ _ _ (by simp)).trans (World.alloc_heap_new W _)
  have hk1 : Kp (fun _ => False) W W1 := by rw [← hW1]; exact ((Kp.refl _ _).alloc _).alloc _
  have hsz1 : W1.heap.size = W.heap.size + 2 := by rw [← hW1]; simp
  let K : ((Nat → Prop) → World → Prop) → Loop → (Nat → Prop) → World → Prop := fun JJ r Zs W' => ∃ Z', JJ Z' W' ∧ (∀ b, Zs b → Z' b) ∧ (∀ b, Z b → Z' b) ∧ Z' L ∧ ¬ Zs L ∧ W'.heap[L]? = some (.loop (r)) ∧ (Z' (W.heap.size) ∧ ¬ Zs (W.heap.size) ∧ W'.heap[W.heap.size]? = some dfr) ∧ (∀ b, Zs b → (S b ∨ W1.heap.size ≤ b) ∧ b < W'.heap.size) ∧ (∀ b, Z b → b < W.heap.size → ¬ S b → W'.heap[b]? = W.heap[b]?) ∧ W1.heap.size ≤ W'.heap.size ∧ KRG G W W'
  have kstep : ∀ (JJ : (Nat → Prop) → World → Prop) r Zs W' W2, (∀ Z W W', JJ Z W → Kp Z W W' → JJ (grew Z W W') W') → K JJ r Zs W' → Kp Zs W' W2 → K JJ r (grew Zs W' W2) W2 := by
    rintro JJ r Zs W' W2 hJJ ⟨Z', hj, hZs, hZZ, hzL, hnL, hrL, ⟨hzD, hnD, hD⟩, hSs, hfr, hsz, hkr⟩ hk
    have hlt : ∀ b, b < W1.heap.size → b < W'.heap.size := fun b hb => by omega
    refine ⟨grew Z' W' W2, hJJ _ _ _ hj (hk.mono fun b _ hb => hZs b hb), fun b hb => hb.imp (hZs b) id, fun b hb => .inl (hZZ b hb), .inl hzL, ?_, (hk.block L (hlt L (by omega)) hnL).trans hrL, ⟨.inl hzD, ?_, (hk.block _ (hlt _ (by omega)) hnD).trans hD⟩, ?_, fun b hb hbl hs => (hk.block b (hlt b (by omega)) ?_).trans (hfr b hb hbl hs), Nat.le_trans hsz hk.size, fun b hb => (hk.block b (hlt b (by have := hG b hb; omega)) ?_).trans (hkr b hb)⟩
    · rintro (h | h)
      · exact hnL h
      · omega
    · rintro (h | h)
      · exact hnD h
      · omega
    · rintro b (h | h)
      · exact ⟨(hSs b h).1, Nat.lt_of_lt_of_le (hSs b h).2 hk.size⟩
      · exact ⟨.inr (by omega), h.2⟩
    · intro h
      rcases (hSs b h).1 with h | h
      · exact hs h
      · omega
    · intro h
      rcases (hSs b h).1 with h | h
      · exact hGS b hb h
      · have := hG b hb; omega
  have hb0 : K (J 0) (rec .ready none) S W1 := by
    refine ⟨grew Z W W1, hJ 0 Z W W1 h0 (hk1.mono fun _ _ h => h.elim), fun b hb => .inl (hSZ b hb), fun b hb => .inl hb, .inr ⟨by omega, by omega⟩, fun h => by have := hSlt L h; omega, hL1, ⟨.inr ⟨by omega, by omega⟩, fun h => by have := hSlt _ h; omega, hK1⟩, fun b hb => ⟨.inl hb, by have := hSlt b hb; omega⟩, fun b hb hbl _ => hk1.block b hbl id, Nat.le_refl _, fun b hb => hk1.block b (hG b hb) id⟩
  have hcore : Calls P gf (#[.func (.yield L) #[] #[]] ++ lb) W1 fun e W' => (∃ v, e = .returned v) ∧ ((∃ Zs, K (J N) (rec .ready none) Zs W') ∨ ∃ Zs, K Jx (rec .done (some .ret)) Zs W') := by
    refine Calls.mono (hseq L (fun i Zs W' => K (J i) (rec .ready none) Zs W') (fun _ Zs W' => K Jx (rec .done (some .ret)) Zs W') S W1 (fun b hb => hk1.block b (hG b hb) id) (fun b hb => ⟨hb, hk1.block b (hSlt b hb) id⟩) (fun i Zs W' W2 h hk => kstep _ _ _ _ _ (hJ i) h hk) (fun i Zs W' W2 h hk => kstep _ _ _ _ _ hJx h hk) ?_ hb0) ?_
    · rintro i Zs Wi vv hi ⟨Z', hj, hZs, hZZ, hzL, hnL, hrL, ⟨hzD, hnD, hD⟩, hSs, hfr, hsz, hkr⟩ hX
      refine yield_x (r := rec .ready none) hrL (by rw [hrec]; exact hps i vv hi hX) (by rw [hrec]) ?_
      have hb := hbody (rec .ready none) i Z' Wi L vv hi hX hj hZZ hzL (by omega) hrL (by rw [hrec]) (by rw [hrec]) (by rw [hrec]) (by rw [hrec]) hkr hfr (by omega)
      have e1 : (rec .ready none).assign = assign := by rw [hrec]
      have e2 : (rec .ready none).body = body := by rw [hrec]
      have e3 : (rec .ready none).params = ps := by rw [hrec]
      have e4 : (rec .ready none).tmps = a.tmps := by rw [hrec]
      rw [← e1, ← e3, ← e4] at hb
      refine wpIn_mono (F := FR (some L)) hb ?_
      rintro e a2 W2 ⟨rfl, h2, hb2⟩
      rw [← e2] at hb2
      refine ⟨rfl, h2, wpIn_mono (F := FR (some L)) hb2 ?_⟩
      rintro e a3 W3 ⟨hk3, hs3, hz3, hl3, Z3, hZ3, hend⟩
      have hlt3 : L < W3.heap.size := (Array.getElem?_eq_some_iff.1 hl3).1
      have hzz : ∀ (o : Obj) b, Zs b → (W3.putObj L o).heap[b]? = Wi.heap[b]? := fun o b hb => by
        have hne : b ≠ L := fun e => hnL (e ▸ hb)
        exact (World.putObj_heap_other hne).trans (hz3 b (hZs b hb) (hSs b hb).2 hne)
      have hGL : ∀ b, G b → b ≠ L := fun b hb e => by have := hG b hb; omega
      have kp3 : ∀ o : Obj, Kp Z3 W3 (W3.putObj L o) := fun o => ⟨rfl, rfl, rfl, by simp, fun b _ hn => World.putObj_heap_other (fun e => hn (e ▸ hZ3 _ hzL))⟩
      refine ⟨_, hl3, ?_⟩
      have kk : ∀ (JJ : (Nat → Prop) → World → Prop) (r : Loop), (∀ Z W W', JJ Z W → Kp Z W W' → JJ (grew Z W W') W') → JJ Z3 W3 → K JJ r Zs (W3.putObj L (.loop r)) := by
        intro JJ r hJJ hj3
        refine ⟨grew Z3 W3 (W3.putObj L (.loop r)), hJJ _ _ _ hj3 (kp3 _), fun b hb => .inl (hZ3 b (hZs b hb)), fun b hb => .inl (hZ3 b (hZZ b hb)), .inl (hZ3 _ hzL), hnL, World.putObj_heap_same hlt3, ⟨.inl (hZ3 _ hzD), hnD, (World.putObj_heap_other (by omega)).trans ((hz3 _ hzD (by omega) (by omega)).trans hD)⟩, fun b hb => ⟨(hSs b hb).1, by have := (hSs b hb).2; simp; omega⟩, fun b hb hbl hs => ?_, by simp; omega, fun b hb => (World.putObj_heap_other (hGL b hb)).trans ((hk3 b hb).trans (hkr b hb))⟩
        have hne : b ≠ L := by omega
        exact (World.putObj_heap_other hne).trans ((hz3 b (hZZ b hb) (by omega) hne).trans (hfr b hb hbl hs))
      have hst : { { (rec .ready none) with state := .busy } with state := .ready, pending := none } = rec .ready none := by rw [hrec]
      have hst2 : { { (rec .ready none) with state := .busy } with state := .done, pending := some .ret } = rec .done (some .ret) := by rw [hrec]
      rcases hend with ⟨rfl, hj3⟩ | ⟨rfl, hj3⟩
      · refine .inl ⟨rfl, ?_⟩
        rw [hst]
        exact ⟨.inl ⟨rfl, kk _ _ (hJ (i + 1)) hj3⟩, fun b hb => (World.putObj_heap_other (hGL b hb)).trans (hk3 b hb), hzz _, by simp; omega⟩
      · refine .inr ⟨rfl, ?_⟩
        rw [hst2]
        exact ⟨.inr ⟨rfl, kk _ _ hJx hj3⟩, fun b hb => (World.putObj_heap_other (hGL b hb)).trans (hk3 b hb), hzz _, by simp; omega⟩
    · rintro e W' ⟨hv, h⟩
      exact ⟨hv, h.imp id fun ⟨_, Zs, h⟩ => ⟨Zs, h⟩⟩
  refine ⟨L, [mkD W.heap.size], W1, { target := .fn (.func gf) lb, args := #[.func (.yield L) #[] #[]] }, W1, gf, #[.func (.yield L) #[] #[]] ++ lb, W1, ?_, ?_, fun _ _ => trivial, ?_, fr_depth, ?_⟩
  · rw [← hW1, hrec, hL]; exact run_enterLoop_outer _ _ _ _ _
  · simp only [resolve, hgop]
    simp [go_sem]
  · simp [invoke, go_sem, hen]
  · refine callsIn_fr.2 (Calls.mono hcore ?_)
    rintro e W' ⟨⟨v, rfl⟩, ⟨Zs, Z', hj, hZs, hZZ, hzL, hnL, hrL, ⟨hzD, hnD, hD⟩, hSs, hfr, hsz, hkr⟩ | ⟨Zs, Z', hj, hZs, hZZ, hzL, hnL, hrL, ⟨hzD, hnD, hD⟩, hSs, hfr, hsz, hkr⟩⟩
    all_goals
      have hend := run_endLoop (P := P) hrL (by rw [hrec]; simp)
      have kp3 : ∀ o : Obj, Kp Z' W' (W'.putObj L o) := fun o => ⟨rfl, rfl, rfl, by simp, fun b _ hn => World.putObj_heap_other (fun e => hn (e ▸ hzL))⟩
      rw [hrec] at hend
      have hfr2 : ∀ (o : Obj) b, Z b → b < W.heap.size → ¬ S b → (W'.putObj L o).heap[b]? = W.heap[b]? := fun o b hb hbl hs => (World.putObj_heap_other (by omega)).trans (hfr b hb hbl hs)
      have hkr2 : ∀ o : Obj, KRG G W (W'.putObj L o) := fun o b hb => (World.putObj_heap_other (by have := hG b hb; omega)).trans (hkr b hb)
    · exact ⟨none, _, hend, hdone W.heap.size _ _ (hJ N _ _ _ hj (kp3 _)) (fun b hb => .inl (hZZ b hb)) (hkr2 _) (hfr2 _) (by simp; omega) ((World.putObj_heap_other (by omega)).trans hD) (.inl hzD) (Nat.le_refl _)⟩
    · exact ⟨some .ret, _, hend, wpIn_ret (hret W.heap.size _ _ (hJx _ _ _ hj (kp3 _)) (fun b hb => .inl (hZZ b hb)) (hkr2 _) (hfr2 _) (by simp; omega) ((World.putObj_heap_other (by omega)).trans hD) (.inl hzD) (Nat.le_refl _))⟩
/-- .. where it does not matter which block the mark is -/
theorem range_x {P : Program} {gop : Operand} {ps : Array Nat} {assign body : Code} {Q : Exit → Act → World → Prop} {a : Act} {W : World} {gf : Nat} {lb : Array Value} {N : Nat} {X : Nat → Array Value → Prop} {G : Nat → Prop}
    (hen : ∀ args W, (callFunc gf args).run P W = .ok (.enter gf args) W) (hgop : a.eval gop = .func (.func gf) #[] lb) {S : Nat → Prop} (hseq : SeqXS P gf lb (KRG G) S N X W) (hG : ∀ b, G b → b < W.heap.size) (hps : ∀ i v, i < N → X i v → v.size = ps.size)
    (J : Nat → (Nat → Prop) → World → Prop) (hJ : ∀ i Z W W', J i Z W → Kp Z W W' → J i (grew Z W W') W') (Jx : (Nat → Prop) → World → Prop) (hJx : ∀ Z W W', Jx Z W → Kp Z W W' → Jx (grew Z W W') W')
    (Z : Nat → Prop) (hSZ : ∀ b, S b → Z b) (hGS : ∀ b, G b → ¬ S b) (hSlt : ∀ b, S b → b < W.heap.size) (h0 : J 0 Z W)
    (hbody : ∀ (rec : Loop) i Zi Wi l v, i < N → X i v → J i Zi Wi → (∀ b, Z b → Zi b) → Zi l → W.heap.size ≤ l → Wi.heap[l]? = some (.loop rec) → rec.state = .ready → rec.tmps = a.tmps → rec.params = ps → rec.body = body → KRG G W Wi → (∀ b, Z b → b < W.heap.size → ¬ S b → Wi.heap[b]? = W.heap[b]?) → W.heap.size ≤ Wi.heap.size →
      assign.wpIn (FR (some l)) 2 P (fun e a2 W2 => e = .normal ∧ W2.heap[l]? = some (.loop rec) ∧ body.wpIn (FR (some l)) 2 P (fun e a3 W3 =>
        KRG G Wi W3 ∧ Wi.heap.size ≤ W3.heap.size ∧ (∀ b, Zi b → b < Wi.heap.size → b ≠ l → W3.heap[b]? = Wi.heap[b]?) ∧ W3.heap[l]? = some (.loop { rec with state := .busy }) ∧ ∃ Z3, (∀ b, Zi b → Z3 b) ∧
          ((e = .normal ∧ J (i + 1) Z3 W3) ∨ (e = .ret ∧ Jx Z3 W3))) a2 (W2.putObj l (.loop { rec with state := .busy })))
        { tmps := (ps.zip v).foldl (fun tmps (x : Nat × Value) => tmps.setIfInBounds x.1 x.2) a.tmps, defers := [] } Wi)
    (hdone : ∀ D Z' W', J N Z' W' → (∀ b, Z b → Z' b) → KRG G W W' → (∀ b, Z b → b < W.heap.size → ¬ S b → W'.heap[b]? = W.heap[b]?) → W.heap.size ≤ W'.heap.size → W'.heap[D]? = some dfr → Z' D → Q .normal { a with defers := mkD D :: a.defers } W')
    (hret : ∀ D Z' W', Jx Z' W' → (∀ b, Z b → Z' b) → KRG G W W' → (∀ b, Z b → b < W.heap.size → ¬ S b → W'.heap[b]? = W.heap[b]?) → W.heap.size ≤ W'.heap.size → W'.heap[D]? = some dfr → Z' D → Q .ret { a with defers := mkD D :: a.defers } W') :
    (Code.rangeFunc gop ps assign body).wpIn (FR none) 3 P Q a W :=
  range_xD hen hgop hseq hG hps J hJ Jx hJx Z hSZ hGS hSlt h0 hbody (fun D Z' W' h1 h2 h3 h4 h5 h6 h7 _ => hdone D Z' W' h1 h2 h3 h4 h5 h6 h7) (fun D Z' W' h1 h2 h3 h4 h5 h6 h7 _ => hret D Z' W' h1 h2 h3 h4 h5 h6 h7)

/-- A RANGE OVER A FUNCTION, walked by hand, in a round of loop l0. J, Jx: what the caller knows between two rounds, and behind a round that has returned; S: the iterator's own blocks among Z -/
theorem rangeN_x {P : Program} {gop : Operand} {ps : Array Nat} {assign body : Code} {Q : Exit → Act → World → Prop} {a : Act} {W : World} {gf : Nat} {lb : Array Value} {N : Nat} {X : Nat → Array Value → Prop} {G : Nat → Prop} {l0 : Nat} {r00 : Loop} (hl00 : W.heap[l0]? = some (.loop r00))
    (hen : ∀ args W, (callFunc gf args).run P W = .ok (.enter gf args) W) (hgop : a.eval gop = .func (.func gf) #[] lb) {S : Nat → Prop} (hseq : SeqXS P gf lb (KRG G) S N X W) (hG : ∀ b, G b → b < W.heap.size) (hps : ∀ i v, i < N → X i v → v.size = ps.size)
    (J : Nat → (Nat → Prop) → World → Prop) (hJ : ∀ i Z W W', J i Z W → Kp Z W W' → J i (grew Z W W') W') (Jx : (Nat → Prop) → World → Prop) (hJx : ∀ Z W W', Jx Z W → Kp Z W W' → Jx (grew Z W W') W')
    (Z : Nat → Prop) (hSZ : ∀ b, S b → Z b) (hGS : ∀ b, G b → ¬ S b) (hSlt : ∀ b, S b → b < W.heap.size) (h0 : J 0 Z W)
    (hbody : ∀ (rec : Loop) i Zi Wi l v, i < N → X i v → J i Zi Wi → (∀ b, Z b → Zi b) → Zi l → W.heap.size ≤ l → Wi.heap[l]? = some (.loop rec) → rec.state = .ready → rec.tmps = a.tmps → rec.params = ps → rec.body = body → KRG G W Wi → (∀ b, Z b → b < W.heap.size → ¬ S b → Wi.heap[b]? = W.heap[b]?) → W.heap.size ≤ Wi.heap.size →
      assign.wpIn (FR (some l)) 2 P (fun e a2 W2 => e = .normal ∧ W2.heap[l]? = some (.loop rec) ∧ body.wpIn (FR (some l)) 2 P (fun e a3 W3 =>
        KRG G Wi W3 ∧ Wi.heap.size ≤ W3.heap.size ∧ (∀ b, Zi b → b < Wi.heap.size → b ≠ l → W3.heap[b]? = Wi.heap[b]?) ∧ W3.heap[l]? = some (.loop { rec with state := .busy }) ∧ ∃ Z3, (∀ b, Zi b → Z3 b) ∧
          ((e = .normal ∧ J (i + 1) Z3 W3) ∨ (e = .ret ∧ Jx Z3 W3))) a2 (W2.putObj l (.loop { rec with state := .busy })))
        { tmps := (ps.zip v).foldl (fun tmps (x : Nat × Value) => tmps.setIfInBounds x.1 x.2) a.tmps, defers := [] } Wi)
    (hdone : ∀ Z' W', J N Z' W' → (∀ b, Z b → Z' b) → KRG G W W' → (∀ b, Z b → b < W.heap.size → ¬ S b → W'.heap[b]? = W.heap[b]?) → W.heap.size ≤ W'.heap.size → Q .normal a W')
    (hret : ∀ Z' W', Jx Z' W' → (∀ b, Z b → Z' b) → KRG G W W' → (∀ b, Z b → b < W.heap.size → ¬ S b → W'.heap[b]? = W.heap[b]?) → W.heap.size ≤ W'.heap.size → Q .ret a W') :
    (Code.rangeFunc gop ps assign body).wpIn (FR (some l0)) 3 P Q a W := by
  refine wpIn_rangeFunc ?_
  intro fn _
  obtain ⟨rec, hrec⟩ : ∃ rec : LoopState → Option Code → Loop, rec = fun st pe => { state := st, pending := pe, fn, tmps := a.tmps, params := ps, assign, body, defers := r00.defers } := ⟨_, rfl⟩
  obtain ⟨L, hL⟩ : ∃ L, L = W.heap.size := ⟨_, rfl⟩
  obtain ⟨W1, hW1⟩ : ∃ W1, W.alloc (.loop (rec .ready none)) = W1 := ⟨_, rfl⟩
  have hL1 : W1.heap[L]? = some (.loop (rec .ready none)) := by rw [← hW1, hL]; exact World.alloc_heap_new W _
  have hk1 : Kp (fun _ => False) W W1 := by rw [← hW1]; exact (Kp.refl _ _).alloc _
  have hsz1 : W1.heap.size = W.heap.size + 1 := by rw [← hW1]; simp
  let K : ((Nat → Prop) → World → Prop) → Loop → (Nat → Prop) → World → Prop := fun JJ r Zs W' => ∃ Z', JJ Z' W' ∧ (∀ b, Zs b → Z' b) ∧ (∀ b, Z b → Z' b) ∧ Z' L ∧ ¬ Zs L ∧ W'.heap[L]? = some (.loop (r)) ∧ (∀ b, Zs b → (S b ∨ W1.heap.size ≤ b) ∧ b < W'.heap.size) ∧ (∀ b, Z b → b < W.heap.size → ¬ S b → W'.heap[b]? = W.heap[b]?) ∧ W1.heap.size ≤ W'.heap.size ∧ KRG G W W'
  have kstep : ∀ (JJ : (Nat → Prop) → World → Prop) r Zs W' W2, (∀ Z W W', JJ Z W → Kp Z W W' → JJ (grew Z W W') W') → K JJ r Zs W' → Kp Zs W' W2 → K JJ r (grew Zs W' W2) W2 := by
    rintro JJ r Zs W' W2 hJJ ⟨Z', hj, hZs, hZZ, hzL, hnL, hrL, hSs, hfr, hsz, hkr⟩ hk
    have hlt : ∀ b, b < W1.heap.size → b < W'.heap.size := fun b hb => by omega
    refine ⟨grew Z' W' W2, hJJ _ _ _ hj (hk.mono fun b _ hb => hZs b hb), fun b hb => hb.imp (hZs b) id, fun b hb => .inl (hZZ b hb), .inl hzL, ?_, (hk.block L (hlt L (by omega)) hnL).trans hrL, ?_, fun b hb hbl hs => (hk.block b (hlt b (by omega)) ?_).trans (hfr b hb hbl hs), Nat.le_trans hsz hk.size, fun b hb => (hk.block b (hlt b (by have := hG b hb; omega)) ?_).trans (hkr b hb)⟩
    · rintro (h | h)
      · exact hnL h
      · omega
    · rintro b (h | h)
      · exact ⟨(hSs b h).1, Nat.lt_of_lt_of_le (hSs b h).2 hk.size⟩
      · exact ⟨.inr (by omega), h.2⟩
    · intro h
      rcases (hSs b h).1 with h | h
      · exact hs h
      · omega
    · intro h
      rcases (hSs b h).1 with h | h
      · exact hGS b hb h
      · have := hG b hb; omega
  have hb0 : K (J 0) (rec .ready none) S W1 := by
    refine ⟨grew Z W W1, hJ 0 Z W W1 h0 (hk1.mono fun _ _ h => h.elim), fun b hb => .inl (hSZ b hb), fun b hb => .inl hb, .inr ⟨by omega, by omega⟩, fun h => by have := hSlt L h; omega, hL1, fun b hb => ⟨.inl hb, by have := hSlt b hb; omega⟩, fun b hb hbl _ => hk1.block b hbl id, Nat.le_refl _, fun b hb => hk1.block b (hG b hb) id⟩
  have hcore : Calls P gf (#[.func (.yield L) #[] #[]] ++ lb) W1 fun e W' => (∃ v, e = .returned v) ∧ ((∃ Zs, K (J N) (rec .ready none) Zs W') ∨ ∃ Zs, K Jx (rec .done (some .ret)) Zs W') := by
    refine Calls.mono (hseq L (fun i Zs W' => K (J i) (rec .ready none) Zs W') (fun _ Zs W' => K Jx (rec .done (some .ret)) Zs W') S W1 (fun b hb => hk1.block b (hG b hb) id) (fun b hb => ⟨hb, hk1.block b (hSlt b hb) id⟩) (fun i Zs W' W2 h hk => kstep _ _ _ _ _ (hJ i) h hk) (fun i Zs W' W2 h hk => kstep _ _ _ _ _ hJx h hk) ?_ hb0) ?_
    · rintro i Zs Wi vv hi ⟨Z', hj, hZs, hZZ, hzL, hnL, hrL, hSs, hfr, hsz, hkr⟩ hX
      refine yield_x (r := rec .ready none) hrL (by rw [hrec]; exact hps i vv hi hX) (by rw [hrec]) ?_
      have hb := hbody (rec .ready none) i Z' Wi L vv hi hX hj hZZ hzL (by omega) hrL (by rw [hrec]) (by rw [hrec]) (by rw [hrec]) (by rw [hrec]) hkr hfr (by omega)
      have e1 : (rec .ready none).assign = assign := by rw [hrec]
      have e2 : (rec .ready none).body = body := by rw [hrec]
      have e3 : (rec .ready none).params = ps := by rw [hrec]
      have e4 : (rec .ready none).tmps = a.tmps := by rw [hrec]
      rw [← e1, ← e3, ← e4] at hb
      refine wpIn_mono (F := FR (some L)) hb ?_
      rintro e a2 W2 ⟨rfl, h2, hb2⟩
      rw [← e2] at hb2
      refine ⟨rfl, h2, wpIn_mono (F := FR (some L)) hb2 ?_⟩
      rintro e a3 W3 ⟨hk3, hs3, hz3, hl3, Z3, hZ3, hend⟩
      have hlt3 : L < W3.heap.size := (Array.getElem?_eq_some_iff.1 hl3).1
      have hzz : ∀ (o : Obj) b, Zs b → (W3.putObj L o).heap[b]? = Wi.heap[b]? := fun o b hb => by
        have hne : b ≠ L := fun e => hnL (e ▸ hb)
        exact (World.putObj_heap_other hne).trans (hz3 b (hZs b hb) (hSs b hb).2 hne)
      have hGL : ∀ b, G b → b ≠ L := fun b hb e => by have := hG b hb; omega
      have kp3 : ∀ o : Obj, Kp Z3 W3 (W3.putObj L o) := fun o => ⟨rfl, rfl, rfl, by simp, fun b _ hn => World.putObj_heap_other (fun e => hn (e ▸ hZ3 _ hzL))⟩
      refine ⟨_, hl3, ?_⟩
      have kk : ∀ (JJ : (Nat → Prop) → World → Prop) (r : Loop), (∀ Z W W', JJ Z W → Kp Z W W' → JJ (grew Z W W') W') → JJ Z3 W3 → K JJ r Zs (W3.putObj L (.loop r)) := by
        intro JJ r hJJ hj3
        refine ⟨grew Z3 W3 (W3.putObj L (.loop r)), hJJ _ _ _ hj3 (kp3 _), fun b hb => .inl (hZ3 b (hZs b hb)), fun b hb => .inl (hZ3 b (hZZ b hb)), .inl (hZ3 _ hzL), hnL, World.putObj_heap_same hlt3, fun b hb => ⟨(hSs b hb).1, by have := (hSs b hb).2; simp; omega⟩, fun b hb hbl hs => ?_, by simp; omega, fun b hb => (World.putObj_heap_other (hGL b hb)).trans ((hk3 b hb).trans (hkr b hb))⟩
        have hne : b ≠ L := by omega
        exact (World.putObj_heap_other hne).trans ((hz3 b (hZZ b hb) (by omega) hne).trans (hfr b hb hbl hs))
      have hst : { { (rec .ready none) with state := .busy } with state := .ready, pending := none } = rec .ready none := by rw [hrec]
      have hst2 : { { (rec .ready none) with state := .busy } with state := .done, pending := some .ret } = rec .done (some .ret) := by rw [hrec]
      rcases hend with ⟨rfl, hj3⟩ | ⟨rfl, hj3⟩
      · refine .inl ⟨rfl, ?_⟩
        rw [hst]
        exact ⟨.inl ⟨rfl, kk _ _ (hJ (i + 1)) hj3⟩, fun b hb => (World.putObj_heap_other (hGL b hb)).trans (hk3 b hb), hzz _, by simp; omega⟩
      · refine .inr ⟨rfl, ?_⟩
        rw [hst2]
        exact ⟨.inr ⟨rfl, kk _ _ hJx hj3⟩, fun b hb => (World.putObj_heap_other (hGL b hb)).trans (hk3 b hb), hzz _, by simp; omega⟩
    · rintro e W' ⟨hv, h⟩
      exact ⟨hv, h.imp id fun ⟨_, Zs, h⟩ => ⟨Zs, h⟩⟩
  refine ⟨L, [], W1, { target := .fn (.func gf) lb, args := #[.func (.yield L) #[] #[]] }, W1, gf, #[.func (.yield L) #[] #[]] ++ lb, W1, ?_, ?_, fun _ _ => trivial, ?_, fr_depth, ?_⟩
  · rw [← hW1, hrec, hL]; exact run_enterLoop_inner hl00 _ _ _ _ _
  · simp only [resolve, hgop]
    simp [go_sem]
  · simp [invoke, go_sem, hen]
  · refine callsIn_fr.2 (Calls.mono hcore ?_)
    rintro e W' ⟨⟨v, rfl⟩, ⟨Zs, Z', hj, hZs, hZZ, hzL, hnL, hrL, hSs, hfr, hsz, hkr⟩ | ⟨Zs, Z', hj, hZs, hZZ, hzL, hnL, hrL, hSs, hfr, hsz, hkr⟩⟩
    all_goals
      have hend := run_endLoop (P := P) hrL (by rw [hrec]; simp)
      have kp3 : ∀ o : Obj, Kp Z' W' (W'.putObj L o) := fun o => ⟨rfl, rfl, rfl, by simp, fun b _ hn => World.putObj_heap_other (fun e => hn (e ▸ hzL))⟩
      rw [hrec] at hend
      have hfr2 : ∀ (o : Obj) b, Z b → b < W.heap.size → ¬ S b → (W'.putObj L o).heap[b]? = W.heap[b]? := fun o b hb hbl hs => (World.putObj_heap_other (by omega)).trans (hfr b hb hbl hs)
      have hkr2 : ∀ o : Obj, KRG G W (W'.putObj L o) := fun o b hb => (World.putObj_heap_other (by have := hG b hb; omega)).trans (hkr b hb)
    · exact ⟨none, _, hend, hdone _ _ (hJ N _ _ _ hj (kp3 _)) (fun b hb => .inl (hZZ b hb)) (hkr2 _) (hfr2 _) (by simp; omega)⟩
    · exact ⟨some .ret, _, hend, wpIn_ret (hret _ _ (hJx _ _ _ hj (kp3 _)) (fun b hb => .inl (hZZ b hb)) (hkr2 _) (hfr2 _) (by simp; omega))⟩
end Go.Proofs.YtiokflebeojokaaGreatDoor.En
