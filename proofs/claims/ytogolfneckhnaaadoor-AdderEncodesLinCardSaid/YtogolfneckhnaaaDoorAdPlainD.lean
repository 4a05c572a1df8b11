/- The plain law of AdderSumCorrect, second part: the run of the adder, and what it started from. -/
import Derived.Test.YtogolfneckhnaaaDoorAdPlainC
namespace Go.Proofs.YtogolfneckhnaaaDoor

def wRows (F : List Bool) (rows : Int → List Int) (k : Int) : Nat → Nat
  | 0 => 0
  | n + 1 => cntT F (rows k) + 2 * wRows F rows (k + 1) n
theorem wRows_congr {F : List Bool} {rows rows' : Int → List Int} : ∀ {n : Nat} {k : Int}, (∀ j, k ≤ j → rows j = rows' j) → wRows F rows k n = wRows F rows' k n
  | 0, _, _ => rfl
  | n + 1, k, h => by simp only [wRows]; rw [h k (Int.le_refl _), wRows_congr (n := n) (k := k + 1) (fun j hj => h j (by omega))]
theorem wRows_empty {F : List Bool} {rows : Int → List Int} : ∀ {n : Nat} {k : Int}, (∀ j, k ≤ j → rows j = []) → wRows F rows k n = 0
  | 0, _, _ => rfl
  | n + 1, k, h => by simp only [wRows]; rw [h k (Int.le_refl _), wRows_empty (n := n) (k := k + 1) (fun j hj => h j (by omega))]; rfl
theorem wRows_more {F : List Bool} {rows : Int → List Int} : ∀ {n m : Nat} {k : Int}, n ≤ m → (∀ j, k + n ≤ j → rows j = []) → wRows F rows k m = wRows F rows k n
  | 0, m, k, _, h => by rw [wRows_empty (fun j hj => h j (by simpa using hj))]; rfl
  | n + 1, 0, _, hm, _ => by omega
  | n + 1, m + 1, k, hm, h => by
    simp only [wRows]
    rw [wRows_more (n := n) (m := m) (k := k + 1) (by omega) (fun j hj => h j (by omega))]
def valL (F : List Bool) : List Int → Nat
  | [] => 0
  | b :: bs => (litT F b).toNat + 2 * valL F bs
theorem numB_shift (bv : Nat → Bool) : ∀ m, numB bv (m + 1) = (bv 0).toNat + 2 * numB (fun i => bv (i + 1)) m
  | 0 => by simp [numB]; cases bv 0 <;> rfl
  | m + 1 => by
    rw [numB, numB_shift bv m]
    conv => rhs; rw [numB]
    rw [Nat.pow_succ]
    split <;> omega
theorem numB_valL (F : List Bool) : ∀ bits : List Int, numB (bvOf bits F) bits.length = valL F bits
  | [] => rfl
  | b :: bs => by
    rw [List.length_cons, numB_shift, valL, ← numB_valL F bs]
    rfl

theorem head_val {F : List Bool} {l : List Int} (h : ¬ 1 < l.length) : (litT F (l.headD 0)).toNat = cntT F l := by
  rcases l with _ | ⟨x, _ | ⟨y, t⟩⟩
  · simp [cntT, litT_zero]
  · simp [cntT]
  · simp at h
theorem natAbs_pos {n : Int} (h : 0 ≤ n) : ((n.natAbs : Nat) : Int) = n := by omega

theorem addC_high (l : List Int) (n : Int) (hn : 1 ≤ n) (h : 1 < l.length) : ∀ c ∈ addC (l.take 3) n (n + 1), ∃ x ∈ c, n ≤ (x.natAbs : Int) := by
  rcases take_two_three l h with ⟨a, b, e, el⟩ | ⟨a, b, d, t, e, el⟩
  · rw [e, addC_two]
    simp only [List.mem_cons, List.not_mem_nil, or_false]
    rintro c (rfl | rfl | rfl | rfl | rfl | rfl | rfl)
    · exact ⟨-n, by simp, by omega⟩
    · exact ⟨n, by simp, by omega⟩
    · exact ⟨n, by simp, by omega⟩
    · exact ⟨-n, by simp, by omega⟩
    · exact ⟨n + 1, by simp, by omega⟩
    · exact ⟨-(n + 1), by simp, by omega⟩
    · exact ⟨-(n + 1), by simp, by omega⟩
  · rw [e, addC_three]
    simp only [List.mem_cons, List.not_mem_nil, or_false]
    rintro c (rfl | rfl | rfl | rfl | rfl | rfl | rfl | rfl | rfl | rfl | rfl | rfl | rfl | rfl)
    · exact ⟨-n, by simp, by omega⟩
    · exact ⟨n, by simp, by omega⟩
    · exact ⟨n, by simp, by omega⟩
    · exact ⟨-n, by simp, by omega⟩
    · exact ⟨n, by simp, by omega⟩
    · exact ⟨-n, by simp, by omega⟩
    · exact ⟨-n, by simp, by omega⟩
    · exact ⟨n, by simp, by omega⟩
    · exact ⟨n + 1, by simp, by omega⟩
    · exact ⟨n + 1, by simp, by omega⟩
    · exact ⟨n + 1, by simp, by omega⟩
    · exact ⟨-(n + 1), by simp, by omega⟩
    · exact ⟨-(n + 1), by simp, by omega⟩
    · exact ⟨-(n + 1), by simp, by omega⟩
theorem toldP_two (cs : List (List Int)) (g : List Bool) (v : Int) (m : Nat) (x c : Bool) (h1 : forcedB cs v v g = x) (h2 : forcedB cs (-v) v g = !x) (h3 : forcedB cs (v + 1) (v + 1) (g ++ [x]) = c) (h4 : forcedB cs (-(v + 1)) (v + 1) (g ++ [x]) = !c) :
    toldP cs g v (m + 2) = toldP cs (g ++ [x, c]) (v + 2) m := by
  rw [toldP, h1, h2, if_neg (by cases x <;> simp), toldP, h3, h4, if_neg (by cases c <;> simp), List.append_assoc, Int.add_assoc]
  rfl

/-- what a run's end gives: the clauses that it adds, and the bits -/
structure Cor (s : Ps) (k : Int) (rest : List (List Int)) (bits : List Int) (after : Int) : Prop where
  high : ∀ c ∈ rest, ∃ x ∈ c, s.nx ≤ (x.natAbs : Int)
  told : ∀ (low : List (List Int)) (g : List Bool), (g.length : Int) = s.nx → (∀ c ∈ low, ∀ x ∈ c, LitOk s.nx x) → ∃ ext, toldP (low ++ rest) g s.nx (after - s.nx).toNat = (g ++ ext, true) ∧ ((g ++ ext).length : Int) = after ∧
    (∀ c ∈ rest, c.any (litT (g ++ ext)) = true) ∧ ∀ n : Nat, s.top - k ≤ n → valL (g ++ ext) bits = wRows (g ++ ext) s.rows k n

theorem sumF_cor (next : Int) : ∀ (f : Nat) (k : Int) (s : Ps) (o : List Int) (r : List Int × List (List Int) × Int), SzOk next s → s.nx ≤ 65537 → (∀ j, s.top ≤ j → s.rows j = []) → sumF f k s o = some r →
    r.2.2 ≤ 65537 ∧ s.nx ≤ r.2.2 ∧ ∃ rest bits, r.2.1 = s.cs ++ rest ∧ r.1 = o ++ bits ∧ Cor s k rest bits r.2.2
  | 0, _, _, _, _, _, _, _, h => by simp [sumF] at h
  | f + 1, k, s, o, r, hs, hhi, hem, h => by
    rw [sumF] at h
    by_cases h1 : k < s.top
    · rw [if_pos h1] at h
      by_cases h2 : 1 < (s.rows k).length
      · rw [if_pos h2] at h
        by_cases h3 : 65537 < s.nx + 2
        · rw [if_pos h3] at h; cases h
        · rw [if_neg h3] at h
          have e1 : (stepA k s).nx = s.nx + 2 := rfl
          have e2 : (stepA k s).cs = s.cs ++ addC ((s.rows k).take 3) s.nx (s.nx + 1) := rfl
          have e3 : (stepA k s).top = max (max s.top (k + 1)) (k + 1 + 1) := rfl
          have er : ∀ j, (stepA k s).rows j = if j = k + 1 then s.rows (k + 1) ++ [s.nx + 1] else if j = k then (s.rows k).drop 3 ++ [s.nx] else s.rows j := fun j => by
            simp only [stepA, updr, setr]
            by_cases c1 : j = k + 1
            · subst c1
              rw [if_pos rfl, if_pos rfl, if_neg (show ¬ k + 1 = k by omega), if_neg (show ¬ k + 1 = k by omega)]
            · rw [if_neg c1, if_neg c1]
              by_cases c2 : j = k
              · subst c2; simp
              · rw [if_neg c2, if_neg c2, if_neg c2]
          have hl1 := hs.lo1
          obtain ⟨b1, b2, rest, bits, b3, b4, b5⟩ := sumF_cor next f k (stepA k s) o r (hs.step k h2) (by rw [e1]; omega) (fun j hj => by
            rw [e3] at hj
            rw [er, if_neg (by omega), if_neg (by omega)]
            exact hem j (by omega)) h
          rw [e1] at b2
          refine ⟨b1, by omega, addC ((s.rows k).take 3) s.nx (s.nx + 1) ++ rest, bits, by rw [b3, e2, List.append_assoc], b4, ?_, ?_⟩
          · intro c hc
            rcases List.mem_append.1 hc with hc | hc
            · exact addC_high (s.rows k) s.nx hl1 h2 c hc
            · obtain ⟨x, hx, hlt⟩ := b5.high c hc
              rw [e1] at hlt
              exact ⟨x, hx, by omega⟩
          · intro low g hg hlow
            have hrow := hs.row k
            obtain ⟨m1, m2⟩ := mid_s (s.rows k) s.nx g hg hl1 (by omega) h2 hrow
            generalize hS : sV g ((s.rows k).take 3) = S at m1 m2
            have hg1 : ((g ++ [S]).length : Int) = s.nx + 1 := by rw [List.length_append, List.length_singleton]; omega
            obtain ⟨m3, m4⟩ := mid_c (s.rows k) s.nx (g ++ [S]) hg1 hl1 (by omega) h2 hrow
            generalize hC : cV (g ++ [S]) ((s.rows k).take 3) = C at m3 m4
            have hg2 : ((g ++ [S, C]).length : Int) = (stepA k s).nx := by rw [List.length_append, e1]; simp; omega
            obtain ⟨acl, _, _⟩ := addC_ok (s.rows k) s.nx hl1 h2 hrow
            have hlow2 : ∀ c ∈ low ++ addC ((s.rows k).take 3) s.nx (s.nx + 1), ∀ x ∈ c, LitOk (stepA k s).nx x := fun c hc x hx => by
              rw [e1]
              rcases List.mem_append.1 hc with hc | hc
              · exact (hlow c hc x hx).mono (by omega)
              · exact acl c hc x hx
            obtain ⟨ext, t1, t2, t3, t4⟩ := b5.told (low ++ addC ((s.rows k).take 3) s.nx (s.nx + 1)) (g ++ [S, C]) hg2 hlow2
            have hhigh : ∀ v, v < s.nx + 2 → ∀ c ∈ rest, ∃ x ∈ c, v < (x.natAbs : Int) := fun v hv c hc => by
              obtain ⟨x, hx, hlt⟩ := b5.high c hc
              rw [e1] at hlt
              exact ⟨x, hx, by omega⟩
            have fo : ∀ lit v out, (lit = v ∨ lit = -v) → s.nx ≤ v → v < s.nx + 2 → forcedB (low ++ (addC ((s.rows k).take 3) s.nx (s.nx + 1) ++ rest)) lit v out = forcedB (addC ((s.rows k).take 3) s.nx (s.nx + 1)) lit v out := fun lit v out hlit hv1 hv2 => by
              rw [forced_app, forced_app, forced_low hlit (fun c hc x hx => (hlow c hc x hx).mono hv1), forced_high hlit (by omega) (hhigh v hv2)]
              simp
            have hm : (r.2.2 - s.nx).toNat = (r.2.2 - (s.nx + 2)).toNat + 2 := by omega
            have htold : toldP (low ++ (addC ((s.rows k).take 3) s.nx (s.nx + 1) ++ rest)) g s.nx (r.2.2 - s.nx).toNat = (g ++ ([S, C] ++ ext), true) := by
              rw [hm, toldP_two _ g s.nx _ S C (by rw [fo _ _ _ (.inl rfl) (Int.le_refl _) (by omega)]; exact m1) (by rw [fo _ _ _ (.inr rfl) (Int.le_refl _) (by omega)]; exact m2)
                (by rw [fo _ _ _ (.inl rfl) (by omega) (by omega)]; exact m3) (by rw [fo _ _ _ (.inr rfl) (by omega) (by omega)]; exact m4)]
              rw [e1, List.append_assoc] at t1
              rw [t1, List.append_assoc]
            rw [List.append_assoc] at t2 t3 t4
            have hFl : (((g ++ ([S, C] ++ ext)).length : Nat) : Int) ≤ 65537 := by rw [t2]; exact b1
            have hFn : s.nx + 2 ≤ ((g ++ ([S, C] ++ ext)).length : Nat) := by rw [t2]; exact b2
            have hcn : ∀ x, LitOk s.nx x → litT (g ++ ([S, C] ++ ext)) x = litT g x := fun x hx => litT_ext _ (by rw [hg]; exact hx) hFl
            have hcnt : cntT (g ++ ([S, C] ++ ext)) ((s.rows k).take 3) = cntT g ((s.rows k).take 3) := cntT_congr (fun x hx => hcn x (hrow x (List.mem_of_mem_take hx)))
            have hcnt1 : cntT (g ++ [S]) ((s.rows k).take 3) = cntT g ((s.rows k).take 3) := cntT_congr (fun x hx => litT_ext _ (by rw [hg]; exact hrow x (List.mem_of_mem_take hx)) (by rw [hg1]; omega))
            have hsv : sV (g ++ ([S, C] ++ ext)) ((s.rows k).take 3) = S := (show sV (g ++ ([S, C] ++ ext)) ((s.rows k).take 3) = sV g ((s.rows k).take 3) by unfold sV; rw [hcnt]).trans hS
            have hcv : cV (g ++ ([S, C] ++ ext)) ((s.rows k).take 3) = C := (show cV (g ++ ([S, C] ++ ext)) ((s.rows k).take 3) = cV (g ++ [S]) ((s.rows k).take 3) by unfold cV; rw [hcnt, hcnt1]).trans hC
            have hgn : g.length = s.nx.natAbs := by omega
            have hlS : litT (g ++ ([S, C] ++ ext)) s.nx = S := by
              rw [litT_val ⟨by omega, by omega, by omega⟩ hFl, decide_eq_true (show 0 < s.nx by omega), ← hgn, List.getD_eq_getElem?_getD, List.getElem?_append_right (Nat.le_refl _)]
              simp
            have hlC : litT (g ++ ([S, C] ++ ext)) (s.nx + 1) = C := by
              rw [litT_val ⟨by omega, by omega, by omega⟩ hFl, decide_eq_true (show 0 < s.nx + 1 by omega), show (s.nx + 1).natAbs = g.length + 1 by omega, List.getD_eq_getElem?_getD, List.getElem?_append_right (by omega)]
              simp
            refine ⟨[S, C] ++ ext, htold, t2, fun c hc => ?_, fun n hn => ?_⟩
            · rcases List.mem_append.1 hc with hc | hc
              · exact add_holds (s.rows k) s.nx _ hFl hl1 hFn h2 hrow (by rw [hlS, hsv]) (by rw [hlC, hcv]) c hc
              · exact t3 c hc
            · have hn2 : (stepA k s).top - k ≤ ((max n 2 : Nat) : Int) := by rw [e3]; omega
              rw [t4 (max n 2) hn2, ← wRows_more (n := n) (m := max n 2) (by omega) (fun j hj => hem j (by omega))]
              obtain ⟨m, hm2⟩ : ∃ m, max n 2 = m + 2 := ⟨max n 2 - 2, by omega⟩
              rw [hm2]
              simp only [wRows]
              rw [er k, er (k + 1), if_pos rfl, if_neg (by omega), if_pos rfl, wRows_congr (rows := (stepA k s).rows) (rows' := s.rows) (k := k + 1 + 1) (fun j hj => by rw [er, if_neg (by omega), if_neg (by omega)]), cntT_app, cntT_app]
              simp only [cntT]
              rw [hlS, hlC]
              have hval := cnt_val (g ++ ([S, C] ++ ext)) (s.rows k) h2
              rw [hsv, hcv] at hval
              have hsplit : cntT (g ++ ([S, C] ++ ext)) (s.rows k) = cntT (g ++ ([S, C] ++ ext)) ((s.rows k).take 3) + cntT (g ++ ([S, C] ++ ext)) ((s.rows k).drop 3) := by
                rw [← cntT_app, List.take_append_drop]
              rw [hsplit]
              omega
      · rw [if_neg h2] at h
        obtain ⟨b1, b2, rest, bits, b3, b4, b5⟩ := sumF_cor next f (k + 1) s _ r hs hhi hem h
        refine ⟨b1, b2, rest, (s.rows k).headD 0 :: bits, b3, by rw [b4, List.append_assoc]; rfl, b5.high, fun low g hg hlow => ?_⟩
        obtain ⟨ext, t1, t2, t3, t4⟩ := b5.told low g hg hlow
        refine ⟨ext, t1, t2, t3, fun n hn => ?_⟩
        obtain ⟨m, rfl⟩ : ∃ m, n = m + 1 := ⟨n - 1, by omega⟩
        simp only [valL, wRows]
        rw [t4 m (by omega), head_val h2]
    · rw [if_neg h1] at h
      injection h with h
      subst h
      refine ⟨hhi, Int.le_refl _, [], [], by simp, by simp, fun c hc => by simp at hc, fun low g hg hlow => ⟨[], ?_, ?_, fun c hc => by simp at hc, fun n hn => ?_⟩⟩
      · rw [show (s.nx - s.nx).toNat = 0 by omega]; simp [toldP]
      · simpa using hg
      · rw [wRows_empty (fun j hj => hem j (by omega))]; rfl
end Go.Proofs.YtogolfneckhnaaaDoor
