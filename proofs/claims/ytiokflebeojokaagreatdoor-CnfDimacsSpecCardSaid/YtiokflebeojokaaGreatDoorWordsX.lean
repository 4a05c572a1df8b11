/- cnf.words' iterator: the words of a text, in the text's own memory. -/
import Derived.Test.YtiokflebeojokaaGreatDoorSplitX
set_option linter.unusedSimpArgs false
set_option linter.unusedVariables false
set_option linter.unnecessarySimpa false
namespace Go.Proofs.YtiokflebeojokaaGreatDoor.En
open Go Go.RowKit
attribute [local go_sem] Oper.semAt_some

theorem glok_mv {W W' : World} {G G' : Nat → Prop} (h : GlOk (g0 W G)) (hk : KRG G W W') (hg : ∀ b, G b → G' b) : GlOk (g0 W' G') := h.up ⟨hk, hg, fun r hr => False.elim hr⟩
theorem roundIn_fr {r : Option Nat} {n m : Nat} {P : Program} {l f : Nat} {tmps : Array Value} {assign body : Code} {w : World} {R : Ending → World → Prop} (h : RoundIn (FR none) m P l f tmps assign body w R) : RoundIn (FR r) n P l f tmps assign body w R :=
  ⟨trivial, fun c cs _ => h.2 c cs (fun d hd => by cases hd)⟩
theorem Kp.putObj {M : Nat → Prop} {W : World} {b : Nat} (o : Obj) (h : M b) : Kp M W (W.putObj b o) := ⟨rfl, rfl, rfl, by simp, fun k _ hn => World.putObj_heap_other (fun e => hn (e ▸ h))⟩
theorem five_alloc (W : World) (o0 o1 o2 o3 o4 : Obj) : (((((W.alloc o0).alloc o1).alloc o2).alloc o3).alloc o4).heap[W.heap.size]? = some o0 ∧ (((((W.alloc o0).alloc o1).alloc o2).alloc o3).alloc o4).heap[W.heap.size + 1]? = some o1 ∧
    (((((W.alloc o0).alloc o1).alloc o2).alloc o3).alloc o4).heap[W.heap.size + 2]? = some o2 ∧ (((((W.alloc o0).alloc o1).alloc o2).alloc o3).alloc o4).heap[W.heap.size + 3]? = some o3 ∧ (((((W.alloc o0).alloc o1).alloc o2).alloc o3).alloc o4).heap[W.heap.size + 4]? = some o4 := by
  have up : ∀ (w : World) (o x : Obj) (k : Nat), w.heap[k]? = some x → (w.alloc o).heap[k]? = some x := fun w o x k h => (Below.heap_alloc w o k (Array.getElem?_eq_some_iff.1 h).1).trans h
  have nw : ∀ (w : World) (o : Obj) (k : Nat), k = w.heap.size → (w.alloc o).heap[k]? = some o := fun w o k h => by rw [h]; exact World.alloc_heap_new w o
  exact ⟨up _ _ _ _ (up _ _ _ _ (up _ _ _ _ (up _ _ _ _ (nw _ _ _ rfl)))), up _ _ _ _ (up _ _ _ _ (up _ _ _ _ (nw _ _ _ (by simp)))), up _ _ _ _ (up _ _ _ _ (nw _ _ _ (by simp))), up _ _ _ _ (nw _ _ _ (by simp)), nw _ _ _ (by simp)⟩
theorem splitseq_x (A1 A2 : Option Addr) (n1 c1 n2 c2 : Nat) (W : World) : Calls Tryz.prog 83 #[.slice A1 n1 c1, .slice A2 n2 c2] W fun e w' => e = .returned (.func (.func 114) #[] #[.pointer (some ⟨W.heap.size + 1, 0, none⟩), .pointer (some ⟨W.heap.size, 0, none⟩), .pointer (some ⟨W.heap.size + 1 + 1, 0, none⟩)]) ∧
    w' = ((W.alloc (.cells #[.slice A1 n1 c1] 41)).alloc (.cells #[.slice A2 n2 c2] 41)).alloc (.cells #[I64 0] 3) := by
  go_enter Tryz.func83, Tryz.ntmps83
  go_wp2
  go_ret
  exact ⟨rfl, rfl⟩
theorem fieldsf_x (A1 : Option Addr) (n1 c1 : Nat) (W : World) : Calls Tryz.prog 84 #[.slice A1 n1 c1, .func (.func 85) #[] #[]] W fun e w' => e = .returned (.func (.func 102) #[] #[.pointer (some ⟨W.heap.size, 0, none⟩), .pointer (some ⟨W.heap.size + 1, 0, none⟩)]) ∧
    w' = (W.alloc (.cells #[.slice A1 n1 c1] 41)).alloc (.cells #[.func (.func 85) #[] #[]] 103) := by
  go_enter Tryz.func84, Tryz.ntmps84
  go_wp2
  go_ret
  exact ⟨rfl, rfl⟩
set_option maxRecDepth 100000 in
set_option maxHeartbeats 1000000 in
theorem words_x {G : Nat → Prop} {W : World} (hG : ∀ b, G b → b < W.heap.size) (hgl : GlOk (g0 W G)) (xs : List Int) (hb : Cn.isBytes xs) (A : Option Addr) (bk off cp p1 o1 : Nat)
    (h1 : W.cell? ⟨p1, o1, none⟩ = some (.slice A xs.length cp)) (g1 : G p1)
    (hA : ∀ j, j < xs.length → A = some ⟨bk, off, none⟩ ∧ G bk ∧ W.cell? ⟨bk, off + j, none⟩ = some (.int .u8 (xs.getD j 0))) (hl : xs.length ≤ cp) (hm : xs.length ≤ maxLen) :
    SeqX Tryz.prog 82 #[.pointer (some ⟨p1, o1, none⟩)] (KRG G) (Cn.wrdE xs).length (fun j => #[pcV bk off ((Cn.wrdE xs).getD j (0, 0))]) W := by
  intro l J Jx Z W1 hKR hJs hJxs hY h0
  have HC1 := Lib.hid (fun (W' : World) (h : KRG G W W') => (World.cell?_of_block (a := ⟨p1, o1, none⟩) (h p1 g1)).trans h1)
  have HJ := Lib.hid hJs
  have HJX := Lib.hid hJxs
  have HY := Lib.hid hY
  have HG := Lib.hid hG
  have HK := Lib.hid hKR
  have H0 := Lib.hid h0
  have HA := Lib.hid hA
  have HGL := Lib.hid hgl
  have HBY := Lib.hid hb
  clear h1 hA hJs hY hG hJxs h0 hKR hgl hb
  refine callsIn_fr.1 (callsIn_of_wp_marks (F := FR none) (n := 3) Tryz.func82 rfl trivial ?_ rfl)
  simp only [Tryz.ntmps82, List.size_toArray, List.length_cons, List.length_nil, Nat.reduceAdd, Nat.reduceSub, Array.replicate_succ, Array.replicate_zero, List.push_toArray, List.append_toArray, List.nil_append, List.cons_append]
  have hro : (FR none).round = none := rfl
  have hlt1 : p1 < W1.heap.size := krg_lt HG.out HK.out p1 g1
  have hc1 := HC1.out W1 HK.out
  gi_wp2_with fail
  refine ⟨trivial, (callsIn_fr.2 (splitseq_x _ _ _ _ _ _ _)).mono ?_⟩
  rintro e w2 ⟨rfl, rfl⟩
  gi_wp2_with fail
  obtain ⟨Wa, hWa⟩ : ∃ Wa, ((((W1.alloc (.cells #[.func (.yield l) #[] #[]] 50)).alloc (.cells #[.int .u8 10] 5)).alloc (.cells #[.slice A xs.length cp] 41)).alloc (.cells #[.slice (some ⟨W1.heap.size + 1, 0, none⟩) 1 1] 41)).alloc (.cells #[I64 0] 3) = Wa := ⟨_, rfl⟩
  have hsz : Wa.heap.size = W1.heap.size + 5 := by rw [← hWa]; simp
  have hkp : Kp (fun _ => False) W1 Wa := by rw [← hWa]; exact (((((Kp.refl _ _).alloc _).alloc _).alloc _).alloc _).alloc _
  have hfive := five_alloc W1 (.cells #[.func (.yield l) #[] #[]] 50 (0, 0)) (.cells #[.int .u8 10] 5 (0, 0)) (.cells #[.slice A xs.length cp] 41 (0, 0)) (.cells #[.slice (some ⟨W1.heap.size + 1, 0, none⟩) 1 1] 41 (0, 0)) (.cells #[I64 0] 3 (0, 0))
  rw [hWa] at hfive
  obtain ⟨hy0, hy1, hy2, hy3, hy4⟩ := hfive
  simp only [hWa]
  obtain ⟨s, hs⟩ : ∃ s, s = W1.heap.size := ⟨_, rfl⟩
  obtain ⟨G2, hG2⟩ : ∃ G2 : Nat → Prop, G2 = fun b => G b ∨ b = s + 1 ∨ b = s + 3 ∨ b = s + 4 := ⟨_, rfl⟩
  have hGlt : ∀ b, G b → b < s := fun b hb => by rw [hs]; exact krg_lt HG.out HK.out b hb
  have hG2lt : ∀ b, G2 b → b < Wa.heap.size := fun b hb => by
    rw [hG2] at hb
    rcases hb with hb | hb | hb | hb
    · have := hGlt b hb; omega
    all_goals omega
  have hkrA : KRG G W Wa := fun b hb => (hkp.block b (krg_lt HG.out HK.out b hb) id).trans (HK.out b hb)
  rw [← hs] at hy0 hy1 hy2 hy3 hy4 hsz ⊢
  have hseq := split_x (G := G2) (W := Wa) hG2lt xs HBY.out A bk off cp (s + 3) (s + 2) (s + 4) (s + 1) 0 1 (by rw [Lib.cell_of_heap hy3]; rfl) (by rw [hG2]; exact .inr (.inr (.inl rfl))) (by rw [Lib.cell_of_heap hy1]; rfl) (by rw [hG2]; exact .inr (.inl rfl)) (by rw [Lib.cell_of_heap hy4]; rfl) (by rw [hG2]; exact .inr (.inr (.inr rfl))) hy2
    (by rw [hG2]; rintro (h | h | h | h); exact absurd (hGlt _ h) (by omega); all_goals omega)
    (fun j hj => by
      obtain ⟨h1, h2, h3⟩ := HA.out j hj
      exact ⟨h1, by rw [hG2]; exact .inl h2, (World.cell?_of_block (a := ⟨bk, off + j, none⟩) (hkrA bk h2)).trans h3⟩) hl hm
  have hJ0 : J (Cn.wrdS xs 0).length (grew Z W1 Wa) Wa := HJ.out 0 Z W1 Wa H0.out (hkp.mono fun _ _ h => h.elim)
  have HGA := Lib.hid (glok_mv (G' := G2) HGL.out hkrA (fun b hb => by rw [hG2]; exact .inl hb))
  have HG2 := Lib.hid hG2
  have HGL2 := Lib.hid hG2lt
  have HGLT := Lib.hid hGlt
  have HKRA := Lib.hid hkrA
  have HY0 := Lib.hid hy0
  have HS := Lib.hid hs
  have HSEQ := Lib.hid hseq
  have HJ0 := Lib.hid hJ0
  have HSZ := Lib.hid hsz
  clear hy0 hy1 hy2 hy3 hy4 hG2lt hGlt hkrA hseq hJ0 hkp hWa hG2 hsz hc1 hlt1
  refine range_x (X := fun j v => ∃ u, v = #[u] ∧ pcR bk off ((Cn.lnE xs).getD j (0, 0)) u) (run_enters Tryz.func114 (by kernel_rfl) rfl) rfl HSEQ.out HGL2.out (fun i v _ ⟨u, hv, _⟩ => by rw [hv]; rfl) (fun k Z W => J (Cn.wrdS xs k).length Z W) (fun _ => HJ.out _) (fun Z W => ∃ i, Jx i Z W) (fun Z W W' ⟨i, h⟩ hk => ⟨i, HJX.out i Z W W' h hk⟩) (grew Z W1 Wa)
    (fun b hb => .inr (by have := HS.out; have := HSZ.out; have hb : b = s + 2 := hb; omega)) (fun b hb h => ?gs) (fun b hb => by have := HSZ.out; have hb : b = s + 2 := hb; omega) HJ0.out ?body ?done ?ret
  case gs =>
    have h : b = s + 2 := h
    rw [HG2.out] at hb
    rcases hb with hb | hb | hb | hb
    · have := HGLT.out b hb; omega
    all_goals omega
  case done =>
    intro D Z' W' hj hZ hkr hfr hsz hD hzD
    have HJD := Lib.hid (HJ.out _ _ _ _ hj (Kp.putObj (W := W') (.deferred none) hzD))
    clear hj hZ hkr hfr
    gi_wp2_with fail
    refine ⟨by simp, .inl ⟨_, _, rfl, run_takeDeferred hD, ?_⟩⟩
    exact ⟨_, results_none rfl _ _ _, ⟨_, rfl⟩, .inl ⟨_, HJD.out⟩⟩
  case ret =>
    intro D Z' W' hj hZ hkr hfr hsz hD hzD
    obtain ⟨ix, hj⟩ := hj
    have HJD := Lib.hid (HJX.out _ _ _ _ hj (Kp.putObj (W := W') (.deferred none) hzD))
    clear hj hZ hkr hfr
    gi_wp2_with fail
    refine ⟨by simp, .inl ⟨_, _, rfl, run_takeDeferred hD, ?_⟩⟩
    exact ⟨_, results_none rfl _ _ _, ⟨_, rfl⟩, .inr ⟨_, _, HJD.out⟩⟩
  case body =>
    rintro rec k Zi Wi l2 v hk ⟨u, rfl, A', n', c', rfl, hn', hnc, hA'⟩ hj hZZ hzl hll hrl hst htm hpa hbd hkr hfr hsz
    have HJD := Lib.hid hj
    have HNN := Lib.hid hn'
    have HAA := Lib.hid hA'
    have HKR := Lib.hid hkr
    have HYI := Lib.hid ((hfr s (.inr (by have := HS.out; have := HSZ.out; omega)) (by have := HSZ.out; omega) (by show ¬ s = s + 2; omega)).trans HY0.out)
    clear hj hkr hfr hA' hn'
    have HREC := Lib.hid (And.intro hst (And.intro htm (And.intro hpa hbd)))
    clear hst htm hpa hbd
    have hro2 : (FR (some l2)).round = some l2 := rfl
    refine wpIn_mono (F := FR (some l2)) (Q := fun e a2 W2 => e = .normal ∧ W2 = Wi ∧ a2 = { tmps := #[.func (.yield l) #[] #[], .pointer (some ⟨p1, o1, none⟩), .pointer (some ⟨W1.heap.size, 0, none⟩), .slice A' n' c', undef, .slice A xs.length cp, .slice (some ⟨W1.heap.size + 1, 0, none⟩) 1 1, .func (.func 114) #[] #[.pointer (some ⟨W1.heap.size + 1 + 1 + 1, 0, none⟩), .pointer (some ⟨W1.heap.size + 1 + 1, 0, none⟩), .pointer (some ⟨W1.heap.size + 1 + 1 + 1 + 1, 0, none⟩)], .slice A' n' c', undef, undef, undef, undef, undef, undef, undef, undef, undef, undef, undef, undef, undef, undef, undef, undef], defers := [] }) (by gi_wp2_with fail) ?_
    rintro e a2 W2 ⟨rfl, rfl, rfl⟩
    refine ⟨rfl, hrl, ?_⟩
    obtain ⟨Wb, hWb⟩ : ∃ Wb, W2.putObj l2 (.loop { rec with state := .busy }) = Wb := ⟨_, rfl⟩
    rw [hWb]
    have HRL := Lib.hid hrl
    have hl2s : l2 < W2.heap.size := (Array.getElem?_eq_some_iff.1 hrl).1
    have hbo : ∀ b, b ≠ l2 → Wb.heap[b]? = W2.heap[b]? := fun b hb => by rw [← hWb]; exact World.putObj_heap_other hb
    have hbs : Wb.heap.size = W2.heap.size := by rw [← hWb]; simp
    have hb2 : Wb.heap[l2]? = some (.loop { rec with state := .busy }) := by rw [← hWb]; exact World.putObj_heap_same hl2s
    have hkp2 : Kp Zi W2 Wb := by rw [← hWb]; exact Kp.putObj _ hzl
    have hkr2 : KRG G2 W2 Wb := fun b hb => hbo b (by have := HGL2.out b hb; omega)
    have HJB := Lib.hid (HJ.out _ _ _ _ HJD.out hkp2)
    obtain ⟨q, hq⟩ : ∃ q, q = (Cn.lnE xs).getD k (0, 0) := ⟨_, rfl⟩
    have hqb := Cn.ln_bd (xs := xs) q (by rw [hq]; simp [List.getD, List.getElem?_eq_getElem hk])
    rw [← hq] at HNN HAA
    have hnq := HNN.out
    have HGB := Lib.hid (fun b hb => (hkr2 b hb).trans (HKR.out b hb) : KRG G2 Wa Wb)
    have HCU := Lib.hid (fun j (hj : j < n') => (by
      obtain ⟨h1, h2, h3⟩ := HA.out (q.1 + j) (by omega)
      refine ⟨HAA.out (by omega), by rw [HG2.out]; exact .inl h2, ?_⟩
      rw [show off + q.1 + j = off + (q.1 + j) by omega]
      exact (World.cell?_of_block (a := ⟨bk, off + (q.1 + j), none⟩) (((HGB.out bk (by rw [HG2.out]; exact .inl h2)).trans (HKRA.out bk h2)))).trans h3 : A' = some ⟨bk, off + q.1, none⟩ ∧ G2 bk ∧ Wb.cell? ⟨bk, off + q.1 + j, none⟩ = some (.int .u8 (xs.getD (q.1 + j) 0))))
    obtain ⟨Wf, hWf⟩ : ∃ Wf, (Wb.alloc (.cells #[.slice A' n' c'] 41)).alloc (.cells #[.func (.func 85) #[] #[]] 103) = Wf := ⟨_, rfl⟩
    have hfz : Wf.heap.size = W2.heap.size + 2 := by rw [← hWf]; simp [hbs]
    have hkpf : Kp (fun _ => False) Wb Wf := by rw [← hWf]; exact ((Kp.refl _ _).alloc _).alloc _
    have hf0 : Wf.heap[W2.heap.size]? = some (.cells #[.slice A' n' c'] 41 (0, 0)) := by
      rw [← hWf, ← hbs]
      exact (Below.heap_alloc _ _ _ (by simp)).trans (World.alloc_heap_new Wb _)
    have hf1 : Wf.heap[W2.heap.size + 1]? = some (.cells #[.func (.func 85) #[] #[]] 103 (0, 0)) := by
      rw [← hWf, ← hbs]
      have := World.alloc_heap_new (Wb.alloc (.cells #[.slice A' n' c'] 41)) (.cells #[.func (.func 85) #[] #[]] 103)
      rwa [World.size_alloc] at this
    have hfo : ∀ b, b < W2.heap.size → Wf.heap[b]? = Wb.heap[b]? := fun b hb => hkpf.block b (by omega) id
    obtain ⟨G3, hG3⟩ : ∃ G3 : Nat → Prop, G3 = fun b => G2 b ∨ b = W2.heap.size ∨ b = W2.heap.size + 1 := ⟨_, rfl⟩
    have hG3lt : ∀ b, G3 b → b < Wf.heap.size := fun b hb => by
      rw [hG3] at hb
      rcases hb with hb | hb | hb
      · have := HGL2.out b hb; omega
      all_goals omega
    have hkr3 : KRG G2 Wa Wf := fun b hb => (hfo b (by have := HGL2.out b hb; omega)).trans (HGB.out b hb)
    have hcl : (Cn.cut xs q).length = n' := by rw [Cn.cut_len hqb.2, hnq]
    have hgl3 : GlOk (g0 Wf G3) := glok_mv HGA.out hkr3 (fun b hb => by rw [hG3]; exact .inl hb)
    have HSQF := Lib.hid (fields_x (G := G3) (W := Wf) hG3lt hgl3 (Cn.cut xs q) (fun x hx => HBY.out x (List.mem_of_mem_take (List.mem_of_mem_drop hx))) A' bk (off + q.1) c' W2.heap.size 0 (W2.heap.size + 1) 0
      (by rw [Lib.cell_of_heap hf0, hcl]; rfl) (by rw [hG3]; exact .inr (.inl rfl)) (by rw [Lib.cell_of_heap hf1]; rfl) (by rw [hG3]; exact .inr (.inr rfl))
      (fun j hj => by
        rw [hcl] at hj
        obtain ⟨h1, h2, h3⟩ := HCU.out j hj
        refine ⟨h1, by rw [hG3]; exact .inl h2, ?_⟩
        rw [Cn.cut_getD (by omega)]
        exact (World.cell?_of_block (a := ⟨bk, off + q.1 + j, none⟩) (hfo bk (by have := HGL2.out bk h2; omega))).trans h3) (by rw [hcl]; exact hnc) (by rw [hcl]; omega))
    obtain ⟨Zf, hZf⟩ : ∃ Zf, Zf = grew (grew Zi W2 Wb) Wb Wf := ⟨_, rfl⟩
    have HJF := Lib.hid (show J ((Cn.wrdS xs k).length + 0) Zf Wf by rw [hZf]; exact HJ.out _ _ _ _ HJB.out (hkpf.mono fun _ _ h => h.elim))
    have HL2F := Lib.hid ((hfo l2 hl2s).trans hb2)
    have HG3L := Lib.hid hG3lt
    have HZF := Lib.hid (show ∀ b, Zi b → Zf b from fun b hb => by rw [hZf]; exact .inl (.inl hb))
    have HZT := Lib.hid (show Zf W2.heap.size ∧ Zf (W2.heap.size + 1) by rw [hZf]; exact ⟨.inr ⟨by omega, by omega⟩, .inr ⟨by omega, by omega⟩⟩)
    have HPOST := Lib.hid (fun (W' : World) (hkr : KRG G3 Wf W') (hfr : ∀ b, Zf b → b < Wf.heap.size → ¬ False → W'.heap[b]? = Wf.heap[b]?) (hsz' : Wf.heap.size ≤ W'.heap.size) => (by
      refine ⟨fun b hb => (hkr b (by rw [hG3]; exact .inl hb)).trans ((hfo b (by have := HGL2.out b hb; omega)).trans (hkr2 b hb)), by omega, fun b hb hbl hbn => (hfr b (HZF.out b hb) (by omega) id).trans ((hfo b hbl).trans (hbo b hbn)), (hfr l2 (HZF.out l2 hzl) (by omega) id).trans HL2F.out⟩ :
        KRG G2 W2 W' ∧ W2.heap.size ≤ W'.heap.size ∧ (∀ b, Zi b → b < W2.heap.size → b ≠ l2 → W'.heap[b]? = W2.heap[b]?) ∧ W'.heap[l2]? = some (.loop { rec with state := .busy })))
    have HG3 := Lib.hid hG3
    have HSF := Lib.hid (show Wf.heap[s]? = some (.cells #[.func (.yield l) #[] #[]] 50 (0, 0)) from (hfo s (by have := HSZ.out; omega)).trans ((hbo s (by have := HSZ.out; omega)).trans HYI.out))
    have HZZ := Lib.hid hZZ
    have HPB := Lib.hid (show KRG G2 W2 Wb ∧ W2.heap.size ≤ Wb.heap.size ∧ (∀ b, Zi b → b < W2.heap.size → b ≠ l2 → Wb.heap[b]? = W2.heap[b]?) ∧ Wb.heap[l2]? = some (.loop { rec with state := .busy }) from ⟨hkr2, by omega, fun b _ _ hbn => hbo b hbn, hb2⟩)
    have HQ := Lib.hid hq
    have HHF := Lib.hid hbs
    have HNQ := Lib.hid hnq
    have HWS := Lib.hid (show Cn.wrdS xs (k + 1) = Cn.wrdS xs k ++ Cn.lnW xs q by rw [hq]; rfl)
    clear hWb hbo hb2 hkp2 hkr2 hkpf hf0 hf1 hfo hG3 hG3lt hkr3 hgl3 hZf hrl hZZ hq hnq
    obtain ⟨POST, hPS⟩ : ∃ POST : Exit → World → Prop, POST = fun e W3 => KRG G2 W2 W3 ∧ W2.heap.size ≤ W3.heap.size ∧ (∀ b, Zi b → b < W2.heap.size → b ≠ l2 → W3.heap[b]? = W2.heap[b]?) ∧ W3.heap[l2]? = some (.loop { rec with state := .busy }) ∧ ∃ Z3, (∀ b, Zi b → Z3 b) ∧
          ((e = .normal ∧ J (Cn.wrdS xs (k + 1)).length Z3 W3) ∨ (e = .ret ∧ ∃ i, Jx i Z3 W3)) := ⟨_, rfl⟩
    refine wpIn_mono (F := FR (some l2)) (Q := fun e _ W3 => POST e W3) ?_ (fun e a W3 h => by rw [hPS] at h; exact h)
    have HPS := Lib.hid hPS
    clear hPS
    have hcase : n' = 0 ∨ (0 < n' ∧ xs.getD q.1 0 = 99) ∨ (0 < n' ∧ xs.getD q.1 0 ≠ 99) := by omega
    rcases hcase with h0 | ⟨h0, h99⟩ | ⟨h0, h99⟩
    · subst h0
      have HW := Lib.hid (show Cn.lnW xs q = (Cn.fldE (Cn.cut xs q)).map fun r => (q.1 + r.1, q.1 + r.2) by unfold Cn.lnW; rw [if_neg (by have := HNQ.out; omega)])
      gi_wp2_with fail
      refine ⟨trivial, (callsIn_fr.2 (fieldsf_x _ _ _ _)).mono ?_⟩
      rintro e w4 ⟨rfl, rfl⟩
      gi_wp2_with fail
      refine wpIn_fr (rangeN_x (l0 := l2) HL2F.out (run_enters Tryz.func102 (by kernel_rfl) rfl) rfl (HSQF.out.s (fun _ => False)) HG3L.out (fun i v _ hv => by rw [hv]; rfl) (fun i Z W => J ((Cn.wrdS xs k).length + i) Z W) (fun _ => HJ.out _) (fun Z W => ∃ i, Jx i Z W) (fun Z W W' ⟨i, h⟩ hk => ⟨i, HJX.out i Z W W' h hk⟩) Zf (fun b h => False.elim h) (fun b _ h => h) (fun b h => False.elim h) HJF.out ?ibody ?idone ?iret)
      case ibody =>
        rintro rec2 i Zj Wj l3 v hi hv hj hZj hzl3 hll3 hrl3 hst3 htm3 hpa3 hbd3 hkr3 hfr3 hsz3
        subst hv
        have HREC3 := Lib.hid (And.intro hst3 (And.intro htm3 (And.intro hpa3 hbd3)))
        clear hst3 htm3 hpa3 hbd3
        have hro3 : (FR (some l3)).round = some l3 := rfl
        have hl3s : l3 < Wj.heap.size := (Array.getElem?_eq_some_iff.1 hrl3).1
        have HRL3 := Lib.hid hrl3
        have HKR3 := Lib.hid hkr3
        have HSJ := Lib.hid ((hfr3 s (HZF.out s (HZZ.out s (.inr (by have := HS.out; have := HSZ.out; omega)))) (by have := HSZ.out; omega) id).trans HSF.out)
        have HJ3 := Lib.hid hj
        have HZ3 := Lib.hid hZj
        obtain ⟨hlt2, hat⟩ := Cn.wrd_at (xs := xs) (k := k) (i := i) hk (by rw [← HQ.out, HW.out, List.length_map]; exact hi)
        rw [← HQ.out, HW.out] at hat
        have HV := Lib.hid (show pcV bk off ((Cn.wrdE xs).getD ((Cn.wrdS xs k).length + i) (0, 0)) = pcV bk (off + q.1) ((Cn.fldE (Cn.cut xs q)).getD i (0, 0)) by
          rw [hat]
          simp only [List.getD, List.getElem?_map, List.getElem?_eq_getElem hi, Option.map_some, Option.getD_some, pcV]
          rw [show off + (q.1 + (Cn.fldE (Cn.cut xs q))[i].1) = off + q.1 + (Cn.fldE (Cn.cut xs q))[i].1 by omega, show q.1 + (Cn.fldE (Cn.cut xs q))[i].2 - (q.1 + (Cn.fldE (Cn.cut xs q))[i].1) = (Cn.fldE (Cn.cut xs q))[i].2 - (Cn.fldE (Cn.cut xs q))[i].1 by omega])
        have HLT2 := Lib.hid hlt2
        clear hj hZj hrl3 hkr3 hfr3 hlt2 hat
        have hvv : ∃ b1 n1, pcV bk (off + q.1) ((Cn.fldE (Cn.cut xs q)).getD i (0, 0)) = .slice (some b1) n1 n1 := ⟨_, _, rfl⟩
        obtain ⟨b1, n1, hvv⟩ := hvv
        rw [hvv] at HV ⊢
        have HVV := Lib.hid hvv
        clear hvv
        refine wpIn_mono (F := FR (some l3)) (Q := fun e a2 W2 => e = .normal ∧ W2 = Wj ∧ ∃ x1 x3 x5 x6 x7 x8 x9 x10 x11 x12 x13 x14 x15 x16 x17 x18 x19 x20 x21 x22 x23 x24 : Value, a2 = { tmps := #[.func (.yield l) #[] #[], x1, .pointer (some ⟨W1.heap.size, 0, none⟩), x3, .slice (some b1) n1 n1, x5, x6, x7, x8, x9, x10, x11, x12, x13, x14, x15, x16, x17, x18, x19, x20, x21, x22, x23, x24], defers := [] }) (by gi_wp2_with fail) ?_
        rintro e a2 W2' ⟨rfl, rfl, x1, x3, x5, x6, x7, x8, x9, x10, x11, x12, x13, x14, x15, x16, x17, x18, x19, x20, x21, x22, x23, x24, rfl⟩
        refine ⟨rfl, HRL3.out, ?_⟩
        obtain ⟨Wk, hWk⟩ : ∃ Wk, W2'.putObj l3 (.loop { rec2 with state := .busy }) = Wk := ⟨_, rfl⟩
        rw [hWk]
        have hko : ∀ b, b ≠ l3 → Wk.heap[b]? = W2'.heap[b]? := fun b hb => by rw [← hWk]; exact World.putObj_heap_other hb
        have hks : Wk.heap.size = W2'.heap.size := by rw [← hWk]; simp
        have hk2 : Wk.heap[l3]? = some (.loop { rec2 with state := .busy }) := by rw [← hWk]; exact World.putObj_heap_same hl3s
        have hkk : Kp Zj W2' Wk := by rw [← hWk]; exact Kp.putObj _ hzl3
        have hcs : Wk.cell? ⟨W1.heap.size, 0, none⟩ = some (.func (.yield l) #[] #[]) := by
          have h := (hko s (by have := HSZ.out; omega)).trans HSJ.out
          rw [← HS.out, Lib.cell_of_heap h]; rfl
        have hyy := HY.out _ _ Wk HLT2.out (HJ.out _ _ _ _ HJ3.out hkk)
        rw [HV.out] at hyy
        obtain ⟨fn, tmps, assign, body, hy, hR⟩ := hyy
        have HKO := Lib.hid hko
        have HKS := Lib.hid hks
        have HK2 := Lib.hid hk2
        clear hWk hko hks hk2 hkk
        obtain ⟨POST2, hPS2⟩ : ∃ POST2 : Exit → World → Prop, POST2 = fun e W3 => KRG G3 W2' W3 ∧ W2'.heap.size ≤ W3.heap.size ∧ (∀ b, Zj b → b < W2'.heap.size → b ≠ l3 → W3.heap[b]? = W2'.heap[b]?) ∧ W3.heap[l3]? = some (.loop { rec2 with state := .busy }) ∧ ∃ Z3, (∀ b, Zj b → Z3 b) ∧
          ((e = .normal ∧ J ((Cn.wrdS xs k).length + (i + 1)) Z3 W3) ∨ (e = .ret ∧ ∃ i, Jx i Z3 W3)) := ⟨_, rfl⟩
        refine wpIn_mono (F := FR (some l3)) (Q := fun e _ W3 => POST2 e W3) ?_ (fun e a W3 h => by rw [hPS2] at h; exact h)
        have HPS2 := Lib.hid hPS2
        clear hPS2
        gi_wp2_with fail
        refine (roundIn_fr hR).mono ?_
        rintro e w5 ⟨hj5, hk5, hz5, hs5⟩
        have HP2 := Lib.hid (show KRG G3 W2' w5 ∧ W2'.heap.size ≤ w5.heap.size ∧ (∀ b, Zj b → b < W2'.heap.size → b ≠ l3 → w5.heap[b]? = W2'.heap[b]?) ∧ w5.heap[l3]? = some (.loop { rec2 with state := .busy }) by
          have hzj : ∀ b, Zj b → b ≠ l3 → w5.heap[b]? = W2'.heap[b]? := fun b hb hn => (hz5 b (.inl hb)).trans (HKO.out b hn)
          have h1 := HS.out
          have h2 := HSZ.out
          refine ⟨fun b hb => ?_, by have := HKS.out; omega, fun b hb _ hn => hzj b hb hn, (hz5 l3 (.inl hzl3)).trans HK2.out⟩
          have hne : b ≠ l3 := by have := HG3L.out b hb; omega
          rw [HG3.out, HG2.out] at hb
          rcases hb with (hb | hb | hb | hb) | hb | hb
          · exact (hk5 b hb).trans (HKO.out b hne)
          · exact hzj b (HZ3.out b (HZF.out b (HZZ.out b (.inr ⟨by omega, by omega⟩)))) hne
          · exact hzj b (HZ3.out b (HZF.out b (HZZ.out b (.inr ⟨by omega, by omega⟩)))) hne
          · exact hzj b (HZ3.out b (HZF.out b (HZZ.out b (.inr ⟨by omega, by omega⟩)))) hne
          · exact hzj b (HZ3.out b (hb ▸ HZT.out.1)) hne
          · exact hzj b (HZ3.out b (hb ▸ HZT.out.2)) hne)
        clear hk5 hz5 hs5
        rcases hj5 with ⟨rfl, hj5⟩ | ⟨rfl, hj5⟩
        · have HJ5 := Lib.hid hj5
          clear hj5
          gi_wp2_with fail
          rw [HPS2.out]
          obtain ⟨e1, e2, e3, e4⟩ := HP2.out
          exact ⟨e1, e2, e3, e4, grew Zj W2' Wk, fun b hb => Or.inl hb, .inl ⟨rfl, HJ5.out⟩⟩
        · have HJ5 := Lib.hid hj5
          clear hj5
          gi_wp2_with fail
          rw [HPS2.out]
          obtain ⟨e1, e2, e3, e4⟩ := HP2.out
          exact ⟨e1, e2, e3, e4, grew Zj W2' Wk, fun b hb => Or.inl hb, .inr ⟨rfl, _, HJ5.out⟩⟩
      case idone =>
        intro Z' W' hj hZ hkr hfr hsz'
        have HJD := Lib.hid hj
        have HP := Lib.hid (HPOST.out W' hkr hfr hsz')
        clear hj hkr hfr
        gi_wp2_with fail
        rw [HPS.out]
        obtain ⟨e1, e2, e3, e4⟩ := HP.out
        exact ⟨e1, e2, e3, e4, Z', fun b hb => hZ b (HZF.out b hb), .inl ⟨rfl, by rw [HWS.out, List.length_append, HW.out, List.length_map]; exact HJD.out⟩⟩
      case iret =>
        intro Z' W' hj hZ hkr hfr hsz'
        have HJD := Lib.hid hj
        have HP := Lib.hid (HPOST.out W' hkr hfr hsz')
        clear hj hkr hfr
        gi_wp2_with fail
        rw [HPS.out]
        obtain ⟨e1, e2, e3, e4⟩ := HP.out
        exact ⟨e1, e2, e3, e4, Z', fun b hb => hZ b (HZF.out b hb), .inr ⟨rfl, HJD.out⟩⟩
    · obtain ⟨rfl, hg, hc⟩ := HCU.out 0 h0
      rw [Nat.add_zero, Nat.add_zero, h99] at hc
      have HW := Lib.hid (show Cn.lnW xs q = [] by unfold Cn.lnW; rw [if_pos ⟨by have := HNQ.out; omega, h99⟩])
      gi_wp2_with fail
      rw [HPS.out]
      obtain ⟨e1, e2, e3, e4⟩ := HPB.out
      exact ⟨e1, e2, e3, e4, grew Zi W2 Wb, fun b hb => Or.inl hb, .inl ⟨rfl, by rw [HWS.out, HW.out, List.append_nil]; exact HJB.out⟩⟩
    · obtain ⟨rfl, hg, hc⟩ := HCU.out 0 h0
      rw [Nat.add_zero, Nat.add_zero] at hc
      have HW := Lib.hid (show Cn.lnW xs q = (Cn.fldE (Cn.cut xs q)).map fun r => (q.1 + r.1, q.1 + r.2) by unfold Cn.lnW; rw [if_neg (fun h => h99 h.2)])
      generalize xs.getD q.1 0 = x at hc h99
      gi_wp2_with fail
      refine ⟨trivial, (callsIn_fr.2 (fieldsf_x _ _ _ _)).mono ?_⟩
      rintro e w4 ⟨rfl, rfl⟩
      gi_wp2_with fail
      refine wpIn_fr (rangeN_x (l0 := l2) HL2F.out (run_enters Tryz.func102 (by kernel_rfl) rfl) rfl (HSQF.out.s (fun _ => False)) HG3L.out (fun i v _ hv => by rw [hv]; rfl) (fun i Z W => J ((Cn.wrdS xs k).length + i) Z W) (fun _ => HJ.out _) (fun Z W => ∃ i, Jx i Z W) (fun Z W W' ⟨i, h⟩ hk => ⟨i, HJX.out i Z W W' h hk⟩) Zf (fun b h => False.elim h) (fun b _ h => h) (fun b h => False.elim h) HJF.out ?ibody ?idone ?iret)
      case ibody =>
        rintro rec2 i Zj Wj l3 v hi hv hj hZj hzl3 hll3 hrl3 hst3 htm3 hpa3 hbd3 hkr3 hfr3 hsz3
        subst hv
        have HREC3 := Lib.hid (And.intro hst3 (And.intro htm3 (And.intro hpa3 hbd3)))
        clear hst3 htm3 hpa3 hbd3
        have hro3 : (FR (some l3)).round = some l3 := rfl
        have hl3s : l3 < Wj.heap.size := (Array.getElem?_eq_some_iff.1 hrl3).1
        have HRL3 := Lib.hid hrl3
        have HKR3 := Lib.hid hkr3
        have HSJ := Lib.hid ((hfr3 s (HZF.out s (HZZ.out s (.inr (by have := HS.out; have := HSZ.out; omega)))) (by have := HSZ.out; omega) id).trans HSF.out)
        have HJ3 := Lib.hid hj
        have HZ3 := Lib.hid hZj
        obtain ⟨hlt2, hat⟩ := Cn.wrd_at (xs := xs) (k := k) (i := i) hk (by rw [← HQ.out, HW.out, List.length_map]; exact hi)
        rw [← HQ.out, HW.out] at hat
        have HV := Lib.hid (show pcV bk off ((Cn.wrdE xs).getD ((Cn.wrdS xs k).length + i) (0, 0)) = pcV bk (off + q.1) ((Cn.fldE (Cn.cut xs q)).getD i (0, 0)) by
          rw [hat]
          simp only [List.getD, List.getElem?_map, List.getElem?_eq_getElem hi, Option.map_some, Option.getD_some, pcV]
          rw [show off + (q.1 + (Cn.fldE (Cn.cut xs q))[i].1) = off + q.1 + (Cn.fldE (Cn.cut xs q))[i].1 by omega, show q.1 + (Cn.fldE (Cn.cut xs q))[i].2 - (q.1 + (Cn.fldE (Cn.cut xs q))[i].1) = (Cn.fldE (Cn.cut xs q))[i].2 - (Cn.fldE (Cn.cut xs q))[i].1 by omega])
        have HLT2 := Lib.hid hlt2
        clear hj hZj hrl3 hkr3 hfr3 hlt2 hat
        have hvv : ∃ b1 n1, pcV bk (off + q.1) ((Cn.fldE (Cn.cut xs q)).getD i (0, 0)) = .slice (some b1) n1 n1 := ⟨_, _, rfl⟩
        obtain ⟨b1, n1, hvv⟩ := hvv
        rw [hvv] at HV ⊢
        have HVV := Lib.hid hvv
        clear hvv
        refine wpIn_mono (F := FR (some l3)) (Q := fun e a2 W2 => e = .normal ∧ W2 = Wj ∧ ∃ x1 x3 x5 x6 x7 x8 x9 x10 x11 x12 x13 x14 x15 x16 x17 x18 x19 x20 x21 x22 x23 x24 : Value, a2 = { tmps := #[.func (.yield l) #[] #[], x1, .pointer (some ⟨W1.heap.size, 0, none⟩), x3, .slice (some b1) n1 n1, x5, x6, x7, x8, x9, x10, x11, x12, x13, x14, x15, x16, x17, x18, x19, x20, x21, x22, x23, x24], defers := [] }) (by gi_wp2_with fail) ?_
        rintro e a2 W2' ⟨rfl, rfl, x1, x3, x5, x6, x7, x8, x9, x10, x11, x12, x13, x14, x15, x16, x17, x18, x19, x20, x21, x22, x23, x24, rfl⟩
        refine ⟨rfl, HRL3.out, ?_⟩
        obtain ⟨Wk, hWk⟩ : ∃ Wk, W2'.putObj l3 (.loop { rec2 with state := .busy }) = Wk := ⟨_, rfl⟩
        rw [hWk]
        have hko : ∀ b, b ≠ l3 → Wk.heap[b]? = W2'.heap[b]? := fun b hb => by rw [← hWk]; exact World.putObj_heap_other hb
        have hks : Wk.heap.size = W2'.heap.size := by rw [← hWk]; simp
        have hk2 : Wk.heap[l3]? = some (.loop { rec2 with state := .busy }) := by rw [← hWk]; exact World.putObj_heap_same hl3s
        have hkk : Kp Zj W2' Wk := by rw [← hWk]; exact Kp.putObj _ hzl3
        have hcs : Wk.cell? ⟨W1.heap.size, 0, none⟩ = some (.func (.yield l) #[] #[]) := by
          have h := (hko s (by have := HSZ.out; omega)).trans HSJ.out
          rw [← HS.out, Lib.cell_of_heap h]; rfl
        have hyy := HY.out _ _ Wk HLT2.out (HJ.out _ _ _ _ HJ3.out hkk)
        rw [HV.out] at hyy
        obtain ⟨fn, tmps, assign, body, hy, hR⟩ := hyy
        have HKO := Lib.hid hko
        have HKS := Lib.hid hks
        have HK2 := Lib.hid hk2
        clear hWk hko hks hk2 hkk
        obtain ⟨POST2, hPS2⟩ : ∃ POST2 : Exit → World → Prop, POST2 = fun e W3 => KRG G3 W2' W3 ∧ W2'.heap.size ≤ W3.heap.size ∧ (∀ b, Zj b → b < W2'.heap.size → b ≠ l3 → W3.heap[b]? = W2'.heap[b]?) ∧ W3.heap[l3]? = some (.loop { rec2 with state := .busy }) ∧ ∃ Z3, (∀ b, Zj b → Z3 b) ∧
          ((e = .normal ∧ J ((Cn.wrdS xs k).length + (i + 1)) Z3 W3) ∨ (e = .ret ∧ ∃ i, Jx i Z3 W3)) := ⟨_, rfl⟩
        refine wpIn_mono (F := FR (some l3)) (Q := fun e _ W3 => POST2 e W3) ?_ (fun e a W3 h => by rw [hPS2] at h; exact h)
        have HPS2 := Lib.hid hPS2
        clear hPS2
        gi_wp2_with fail
        refine (roundIn_fr hR).mono ?_
        rintro e w5 ⟨hj5, hk5, hz5, hs5⟩
        have HP2 := Lib.hid (show KRG G3 W2' w5 ∧ W2'.heap.size ≤ w5.heap.size ∧ (∀ b, Zj b → b < W2'.heap.size → b ≠ l3 → w5.heap[b]? = W2'.heap[b]?) ∧ w5.heap[l3]? = some (.loop { rec2 with state := .busy }) by
          have hzj : ∀ b, Zj b → b ≠ l3 → w5.heap[b]? = W2'.heap[b]? := fun b hb hn => (hz5 b (.inl hb)).trans (HKO.out b hn)
          have h1 := HS.out
          have h2 := HSZ.out
          refine ⟨fun b hb => ?_, by have := HKS.out; omega, fun b hb _ hn => hzj b hb hn, (hz5 l3 (.inl hzl3)).trans HK2.out⟩
          have hne : b ≠ l3 := by have := HG3L.out b hb; omega
          rw [HG3.out, HG2.out] at hb
          rcases hb with (hb | hb | hb | hb) | hb | hb
          · exact (hk5 b hb).trans (HKO.out b hne)
          · exact hzj b (HZ3.out b (HZF.out b (HZZ.out b (.inr ⟨by omega, by omega⟩)))) hne
          · exact hzj b (HZ3.out b (HZF.out b (HZZ.out b (.inr ⟨by omega, by omega⟩)))) hne
          · exact hzj b (HZ3.out b (HZF.out b (HZZ.out b (.inr ⟨by omega, by omega⟩)))) hne
          · exact hzj b (HZ3.out b (hb ▸ HZT.out.1)) hne
          · exact hzj b (HZ3.out b (hb ▸ HZT.out.2)) hne)
        clear hk5 hz5 hs5
        rcases hj5 with ⟨rfl, hj5⟩ | ⟨rfl, hj5⟩
        · have HJ5 := Lib.hid hj5
          clear hj5
          gi_wp2_with fail
          rw [HPS2.out]
          obtain ⟨e1, e2, e3, e4⟩ := HP2.out
          exact ⟨e1, e2, e3, e4, grew Zj W2' Wk, fun b hb => Or.inl hb, .inl ⟨rfl, HJ5.out⟩⟩
        · have HJ5 := Lib.hid hj5
          clear hj5
          gi_wp2_with fail
          rw [HPS2.out]
          obtain ⟨e1, e2, e3, e4⟩ := HP2.out
          exact ⟨e1, e2, e3, e4, grew Zj W2' Wk, fun b hb => Or.inl hb, .inr ⟨rfl, _, HJ5.out⟩⟩
      case idone =>
        intro Z' W' hj hZ hkr hfr hsz'
        have HJD := Lib.hid hj
        have HP := Lib.hid (HPOST.out W' hkr hfr hsz')
        clear hj hkr hfr
        gi_wp2_with fail
        rw [HPS.out]
        obtain ⟨e1, e2, e3, e4⟩ := HP.out
        exact ⟨e1, e2, e3, e4, Z', fun b hb => hZ b (HZF.out b hb), .inl ⟨rfl, by rw [HWS.out, List.length_append, HW.out, List.length_map]; exact HJD.out⟩⟩
      case iret =>
        intro Z' W' hj hZ hkr hfr hsz'
        have HJD := Lib.hid hj
        have HP := Lib.hid (HPOST.out W' hkr hfr hsz')
        clear hj hkr hfr
        gi_wp2_with fail
        rw [HPS.out]
        obtain ⟨e1, e2, e3, e4⟩ := HP.out
        exact ⟨e1, e2, e3, e4, Z', fun b hb => hZ b (HZF.out b hb), .inr ⟨rfl, HJD.out⟩⟩
def words_it : ItF
  | [.pto [.ls (.bytes xs)]] => some (Cn.isBytes xs ∧ xs.length ≤ maxLen, (Cn.wordsV xs).length, fun i => [.im (.ls (.bytes ((Cn.wordsV xs).getD i [])))])
  | _ => none
theorem rep_bytes {W : World} {G : Nat → Prop} {xs : List Int} {v : Value} (h : Rep W G (.ls (.bytes xs)) v) : ∃ (A : Option Addr) (c bk off : Nat), v = .slice A xs.length c ∧ xs.length ≤ c ∧ ∀ j, j < xs.length → A = some ⟨bk, off, none⟩ ∧ G bk ∧ W.cell? ⟨bk, off + j, none⟩ = some (.int .u8 (xs.getD j 0)) := by
  rcases h.cases_ls with ⟨h0, A, c, rfl⟩ | ⟨b, off, c, u, rfl, hc, _, hb, hcell, hrep⟩
  · have h0' : xs.length = 0 := h0
    exact ⟨A, c, 0, 0, by rw [h0'], by omega, fun j hj => by omega⟩
  · refine ⟨_, c, b, off, rfl, hc, fun j hj => ⟨rfl, hb, ?_⟩⟩
    have h1 : W.cell? ⟨b, off + j * 1 + 0, none⟩ = some (u j 0) := hcell j 0 hj Nat.one_pos
    rw [Nat.mul_one, Nat.add_zero] at h1
    rw [h1]
    have h2 := hrep j 0 hj Nat.one_pos
    have e : u j 0 = .int .u8 (xs.getD j 0) := den_val (g := ⟨W, G, fun _ => undef, fun _ => False⟩) (by simp only [Den]; exact h2)
    rw [e]
theorem pc_rep {W : World} {G : Nat → Prop} {xs : List Int} {bk off : Nat} {q : Nat × Nat} (hq : q.1 < q.2) (hq2 : q.2 ≤ xs.length) (hm : xs.length ≤ maxLen) (hA : ∀ j, j < xs.length → G bk ∧ W.cell? ⟨bk, off + j, none⟩ = some (.int .u8 (xs.getD j 0))) : Rep W G (.ls (.bytes (Cn.cut xs q))) (pcV bk off q) := by
  have hl : (Cn.cut xs q).length = q.2 - q.1 := Cn.cut_len hq2
  unfold pcV
  rw [← hl]
  refine .ls (.bytes (Cn.cut xs q)) bk (off + q.1) _ (fun i _ => .int .u8 ((Cn.cut xs q).getD i 0)) (Nat.le_refl _) (by show (Cn.cut xs q).length ≤ _; omega) (hA 0 (by omega)).1 (fun i j hi hj => ?_) (fun i j hi hj => ?_)
  · have hj0 : j = 0 := by have : j < 1 := hj
                           omega
    have hi' : i < (Cn.cut xs q).length := hi
    subst hj0
    show W.cell? ⟨bk, off + q.1 + i * 1 + 0, none⟩ = _
    rw [Nat.mul_one, Nat.add_zero, Nat.add_assoc, (hA (q.1 + i) (by omega)).2, Cn.cut_getD (by omega)]
  · exact .val _
theorem words_seq : SeqSound Tryz.prog 82 words_it := by
  refine ⟨run_enters Tryz.func82 (by kernel_rfl) rfl, fun W G caps vs p N el hG hgl hσ hp hd => ?_⟩
  unfold words_it at hσ
  split at hσ
  · rename_i xs
    injection hσ with hσ
    injection hσ with h1 h2
    injection h2 with h2 h3
    subst h1 h2 h3
    obtain ⟨hb, hl⟩ := hp
    simp only [DenL, Den] at hd
    obtain ⟨v1, vs1, rfl, ⟨p1, o1, rfl, g1, hc1⟩, rfl⟩ := hd
    obtain ⟨u1, hu1, hr1⟩ := hc1 0 (.ls (.bytes xs)) rfl
    obtain ⟨A, c, bk, off, rfl, hc, hA⟩ := rep_bytes hr1
    refine ⟨fun j => #[pcV bk off ((Cn.wrdE xs).getD j (0, 0))], fun i hi => ?_, ?_⟩
    · have hi' : i < (Cn.wrdE xs).length := by rwa [Cn.wordsV, List.length_map] at hi
      have hq := Cn.wrd_bd (xs := xs) ((Cn.wrdE xs).getD i (0, 0)) (by simp [List.getD, List.getElem?_eq_getElem hi'])
      simp only [DenL]
      refine ⟨_, _, rfl, ?_, rfl⟩
      simp only [Den]
      have e : (Cn.wordsV xs).getD i [] = Cn.cut xs ((Cn.wrdE xs).getD i (0, 0)) := by simp [Cn.wordsV, List.getD, List.getElem?_eq_getElem hi']
      rw [e]
      exact pc_rep hq.1 hq.2 hl fun j hj => (hA j hj).2
    · rw [Cn.wordsV, List.length_map]
      exact words_x hG hgl xs hb A bk off c p1 o1 hu1 g1 hA hc hl
  · cases hσ
end Go.Proofs.YtiokflebeojokaaGreatDoor.En
