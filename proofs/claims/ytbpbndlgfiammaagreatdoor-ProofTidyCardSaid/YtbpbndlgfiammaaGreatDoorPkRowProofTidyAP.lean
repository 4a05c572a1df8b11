/- Lemmas and contracts for the row. -/
import Derived.Test.YtbpbndlgfiammaaGreatDoorPkRowProofTidyAG
import Derived.Test.YtbpbndlgfiammaaGreatDoorRows
import Derived.ProofKit
import Derived.LaidMore
import Derived.Lay
import Derived.LaidHandle
import Derived.MakeChecks
import Derived.OpenShut
import Derived.Stop.Joined
import Derived.Lib.LaidU8
import Derived.Shelf.Vars
import Derived.SizedLaws
import Derived.Handed
set_option linter.unusedVariables false
set_option linter.unusedSimpArgs false
set_option linter.unnecessarySimpa false
namespace Go.Proofs.YtbpbndlgfiammaaGreatDoor
open Go.ChangeShapes Go.WideShapes Go.ChangeAt Go.RowKit
abbrev lay : List (String × DataW Unit) := [("math/bits.deBruijn32tab", Rows.laid_math_bits_deBruijn32tab), ("math/bits.deBruijn64tab", Rows.laid_math_bits_deBruijn64tab), ("internal/strconv.uint64pow10", Rows.laid_internal_strconv_uint64pow10), ("unicode/utf8.acceptRanges", Rows.laid_unicode_utf8_acceptRanges), ("strconv.ErrRange", Rows.laid_strconv_ErrRange), ("strconv.ErrSyntax", Rows.laid_strconv_ErrSyntax), ("unicode/utf8.first", Rows.laid_unicode_utf8_first)]
set_option maxRecDepth 100000 in
theorem door_met (os : Os) (args : Array Value) : laidMetH Tryz.prog lay ((World.laidAll Tryz.prog os lay).forCall (fun _ _ => 0) ⟨#[], args, []⟩).memory := by
  rw [MakeChecks.laidMetH_plain _ _ _ (by kernel_rfl)]
  exact laidMet_laidAll args (by kernel_rfl) (by kernel_rfl)
set_option maxRecDepth 100000 in
theorem shaped_all (os : Os) : (World.laidAll Tryz.prog os lay).Shaped Tryz.prog := World.shaped_of_ZipB (by kernel_rfl) (by kernel_rfl)
theorem glb_one {P : Program} {W : World} {n : String} {k : Nat} {cs : Array Value} {xs : List Value} (hg : P.globalNamed n = some k) (hv : W.var? P n = some cs) (hc : cs.toList = xs) :
    k < W.heap.size ∧ (∀ (j : Nat) (x : Value), xs[j]? = some x → W.cell? ⟨k, j, none⟩ = some x) ∧ ∃ t m, W.heap[k]? = some (.cells xs.toArray t m) := by
  have hcs : cs = xs.toArray := by rw [← hc]
  subst hcs
  have h1 := fun j => World.var?_cell hg hv j
  simp only [World.var?, hg, Option.bind_some] at hv
  split at hv
  · rename_i c t m hb
    cases hv
    refine ⟨?_, fun j x hj => ?_, t, m, hb⟩
    · by_cases h : k < W.heap.size
      · exact h
      · rw [Array.getElem?_eq_none (by omega)] at hb; cases hb
    · rw [h1 j]; simpa using hj
  · cases hv
def acc : List (List Int) := [[128, 191], [160, 191], [128, 159], [144, 191], [128, 143], [0, 0], [0, 0], [0, 0], [0, 0], [0, 0], [0, 0], [0, 0], [0, 0], [0, 0], [0, 0], [0, 0]]
theorem laid_acc : (Rows.laid_unicode_utf8_acceptRanges : DataW Unit) = .agg (acc.map fun l => .agg (l.map fun z => .lit (.int .u8 z))) := rfl
theorem laid_pow : (Rows.laid_internal_strconv_uint64pow10 : DataW Unit) = Lib.tabData .u64 En.g_pow10 := rfl
set_option maxRecDepth 100000 in
theorem laid_first : Rows.laid_unicode_utf8_first = Lib.tabData .u8 En.g_first := by
  show DataW.agg (Go.Pinned.numbers .u8 Go.Pinned.utf8FirstZ) = .agg _
  rw [show En.g_first = Go.Pinned.utf8FirstZ.map Int.ofNat by decide +kernel, List.map_map]
  rfl
theorem get_some {l : List Int} {i : Nat} (h : i < l.length) : l[i]? = some (l.getD i 0) := by rw [List.getD_eq_getElem?_getD, List.getElem?_eq_getElem h]; rfl
theorem acc_at : ∀ i, i < 16 → ∀ j, j < 2 → (acc.getD i []).getD j 0 = En.g_accept.getD (2 * i + j) 0 := by decide
theorem acc_len : ∀ i, i < 16 → (acc.getD i []).length = 2 := by decide
theorem trod_iface_cells {H : Type} {enc : TypeId × Value → H} {P : Program} {w : World} {base : Nat} {sp : Nat → Bool} {t : TypeId} {ms : Array (String × TypeId)} {fuel : Nat} {cs : List Value} {n : String} {d : DataW H} {p : List MemPlace} (ht : P.underlying t = some (.interface ms))
    (h : DataW.trod enc P w base sp false fuel t cs = some (.iface n d, p)) : ∃ u v, cs = [.iface u v] := by
  cases fuel with
  | zero => simp [DataW.trod] at h
  | succ k =>
    unfold DataW.trod at h
    rw [ht] at h
    split at h
    all_goals first
      | exact ⟨_, _, rfl⟩
      | (simp at h; done)
      | (rename_i h1 _; cases h1; done)
      | (rename_i h1; cases h1; done)
      | simp_all
theorem glb_err {P : Program} {W : World} {n m : String} {k t0 : Nat} {ms : Array (String × TypeId)} {d : DataW Unit} (hr : Lib.VarReads P W n (.iface m d)) (hg : P.globalNamed n = some k) (hty : (P.globals[k]?).map (·.type) = some t0) (hu : P.underlying t0 = some (.interface ms)) :
    k < W.heap.size ∧ ∃ te pe, W.cell? ⟨k, 0, none⟩ = some (.iface te pe) := by
  obtain ⟨g, t, cs, fuel, p, hg', hty', hvar, hd⟩ := hr
  obtain rfl := Option.some.inj (hg.symm.trans hg')
  obtain rfl := Option.some.inj (hty.symm.trans hty')
  obtain ⟨u, v, hc⟩ := trod_iface_cells hu hd
  obtain ⟨h1, h2, _⟩ := glb_one hg hvar hc
  exact ⟨h1, u, v, h2 0 _ rfl⟩
theorem returns_shaped {H : Type} {enc : TypeId × Value → H} {a : Assume} {C : Checked} {os : Os} {f : FuncId} {fn : Func} {s : ChangeSpec} {conds : List PathCond} {apart fresh handsOn again : Bool} {X : World → Array Value → Prop}
    (hX : ∀ (w w' : World) (args : Array Value), w.heap = w'.heap → X w args → X w' args)
    (own : ownKnob C.prog.godebug = none) (started : os.Started) (noInit : C.prog.inits.idxOf? f = none) (hfn : C.prog.funcs[f]? = some fn)
    (witness : ∃ (w : World) (tape : Tape) (i : Input), w.os = os ∧ (w.forCall tape i).Shaped C.prog ∧ i.vars = [] ∧ Input.okWide C.prog (w.forCall tape i) .any w.heap.size f i ∧
      ((s.pre enc C.prog fn conds apart (w.forCall tape i).memory i.args ∧ X (w.forCall tape i).memory i.args) ∧ sizedMet enc C.prog fn (OpenSpec.ofChange s) apart (w.forCall tape i).memory i.args) ∧ a.holds C.prog (lone (Frame.enter C.prog f i.args .normal) [] (w.forCall tape i)))
    (contract : ∀ (W : World) (base : Nat) (args : Array Value) (ds gs : List (DataW H)) (before : List MemPlace),
      (∀ (j : Nat) t v, fn.params[j]? = some t → args[j]? = some v → Value.okWide C.prog W .any base t v) →
      DataW.Whole enc C.prog fn.params.toList s.vars apart W args.toList ds gs before →
      (DataW.weightsEach C.prog (fn.params.toList ++ s.plain.varTypes C.prog) (ds ++ gs)).all (· ≤ reachBytes) = true → X W args → W.ShapedOpen C.prog →
      Calls C.prog f args W fun e W' => ∃ v, e = .returned v ∧ s.post enc C.prog fn apart fresh handsOn again W args v W') :
    ReturnsInHanded a C os f .any (fun w args => (s.pre enc C.prog fn conds apart w args ∧ X w args) ∧ sizedMet enc C.prog fn (OpenSpec.ofChange s) apart w args) (s.post enc C.prog fn apart fresh handsOn again) := by
  refine returnsInHanded_of_calls own started noInit witness ?_
  intro w tape i _ hsh _ hok hpre hholds
  obtain ⟨_, _, _, fn', hfn', _, _, _, _, hval⟩ := hok
  have e : fn' = fn := Option.some.inj (hfn'.symm.trans hfn)
  subst e
  obtain ⟨⟨⟨ds, gs, before, hw, hc⟩, hx⟩, hz⟩ := hpre
  have hw' := DataW.Whole.of_heap (w' := w.forCall tape i) (by rfl) hw
  refine (contract (w.forCall tape i) w.heap.size i.args ds gs before hval hw' (hz.weights hw) (hX _ _ _ (by rfl) hx) hsh).mono fun e W' ⟨v, he, hp⟩ => ?_
  subst he
  exact ChangeSpec.post_blind hp
set_option maxRecDepth 100000 in
theorem glOk_of_laid {W : World} (h : laidMetH Tryz.prog lay W) (hsh : W.ShapedOpen Tryz.prog) : En.GlOk (En.gW W) := by
  rw [MakeChecks.laidMetH_plain _ _ _ (by kernel_rfl)] at h
  have hp := Lib.laidMet.reads h (n := "internal/strconv.uint64pow10") (d := Rows.laid_internal_strconv_uint64pow10) (by simp [lay])
  have hf := Lib.laidMet.reads h (n := "unicode/utf8.first") (d := Rows.laid_unicode_utf8_first) (by simp [lay])
  have ha := Lib.laidMet.reads h (n := "unicode/utf8.acceptRanges") (d := Rows.laid_unicode_utf8_acceptRanges) (by simp [lay])
  rw [laid_pow] at hp
  rw [laid_first] at hf
  rw [laid_acc] at ha
  have kp : Tryz.prog.globalNamed "internal/strconv.uint64pow10" = some 1 := by kernel_rfl
  have kf : Tryz.prog.globalNamed "unicode/utf8.first" = some 6 := by kernel_rfl
  have ka : Tryz.prog.globalNamed "unicode/utf8.acceptRanges" = some 7 := by kernel_rfl
  have gp : (En.gW W).G 1 ∧ (∀ (j : Nat) (x : Value), (En.g_pow10.map (Value.int .u64))[j]? = some x → (En.gW W).W.cell? ⟨1, j, none⟩ = some x) ∧ ∃ t m, (En.gW W).W.heap[1]? = some (.cells ((En.g_pow10.map (Value.int .u64))).toArray t m) := by
    obtain ⟨g, t, cs, fuel, p, hg, hty, hvar, hd⟩ := hp
    obtain rfl := Option.some.inj (kp.symm.trans hg)
    obtain rfl := Option.some.inj ((show (Tryz.prog.globals[1]?).map (·.type) = some 166 by kernel_rfl).symm.trans hty)
    exact glb_one kp hvar (Lib.cells_of_tab Tryz.underlying166 Tryz.underlying128 (by kernel_rfl) (by kernel_rfl) hd)
  have gf : (En.gW W).G 6 ∧ (∀ (j : Nat) (x : Value), (En.g_first.map (Value.int .u8))[j]? = some x → (En.gW W).W.cell? ⟨6, j, none⟩ = some x) ∧ ∃ t m, (En.gW W).W.heap[6]? = some (.cells ((En.g_first.map (Value.int .u8))).toArray t m) := by
    obtain ⟨g, t, cs, fuel, p, hg, hty, hvar, hd⟩ := hf
    obtain rfl := Option.some.inj (kf.symm.trans hg)
    obtain rfl := Option.some.inj ((show (Tryz.prog.globals[6]?).map (·.type) = some 202 by kernel_rfl).symm.trans hty)
    exact glb_one kf hvar (Lib.cells_of_tab Tryz.underlying202 Tryz.underlying5 (by kernel_rfl) (by kernel_rfl) hd)
  have ga : (En.gW W).G 7 ∧ (∀ (j : Nat) (x : Value), (En.g_accept.map (Value.int .u8))[j]? = some x → (En.gW W).W.cell? ⟨7, j, none⟩ = some x) ∧ ∃ t m, (En.gW W).W.heap[7]? = some (.cells ((En.g_accept.map (Value.int .u8))).toArray t m) := by
    obtain ⟨g, t, cs, fuel, p, hg, hty, hvar, hd⟩ := ha
    obtain rfl := Option.some.inj (ka.symm.trans hg)
    obtain rfl := Option.some.inj ((show (Tryz.prog.globals[7]?).map (·.type) = some 205 by kernel_rfl).symm.trans hty)
    have hcs : cs.toList = En.g_accept.map (Value.int .u8) := by
      have hlen : cs.toList.length = 32 := by
        obtain ⟨_, _, _, _, hl, _⟩ := DataW.trod_array Tryz.underlying205 hd
        rw [hl]; kernel_rfl
      apply List.ext_getElem?
      intro i
      by_cases hi : i < 32
      · have hq : i / 2 < 16 := by omega
        obtain ⟨fuel', d, q, hdi, he⟩ := Lib.array_elem Tryz.underlying205 hd (i / 2) hq
        simp only [List.getElem?_map] at hdi
        rw [show acc[i / 2]? = some (acc.getD (i / 2) []) by rw [List.getD_eq_getElem?_getD, List.getElem?_eq_getElem (by show i / 2 < 16; exact hq)]; rfl] at hdi
        simp only [Option.map_some, Option.some.injEq] at hdi
        subst hdi
        rw [show Tryz.prog.cellsOf 204 = 2 by kernel_rfl] at he
        have hcs := Lib.ints_of_struct Tryz.underlying204 (fun j f hj => by
          match j, hj with
          | 0, hj => cases hj; exact ⟨Tryz.underlying5, rfl, by kernel_rfl⟩
          | 1, hj => cases hj; exact ⟨Tryz.underlying5, rfl, by kernel_rfl⟩
          | j + 2, hj => simp at hj) (by kernel_rfl) he
        have h2 := congrArg (·[i % 2]?) hcs
        simp only [List.getElem?_take, List.getElem?_drop, List.getElem?_map] at h2
        rw [if_pos (by omega), show i / 2 * 2 + i % 2 = i by omega] at h2
        rw [h2, List.getElem?_map]
        have e1 : (acc.getD (i / 2) [])[i % 2]? = some ((acc.getD (i / 2) []).getD (i % 2) 0) := get_some (by rw [acc_len _ hq]; omega)
        have e2 : En.g_accept[i]? = some (En.g_accept.getD i 0) := get_some (by show i < 32; exact hi)
        rw [e1, e2, acc_at _ hq _ (by omega), show 2 * (i / 2) + i % 2 = i by omega]
      · rw [List.getElem?_eq_none (by omega), List.getElem?_eq_none (by simp [En.g_accept]; omega)]
    exact glb_one ka hvar hcs
  have gr := glb_err (Lib.laidMet.reads h (n := "strconv.ErrRange") (d := Rows.laid_strconv_ErrRange) (by simp [lay])) (show Tryz.prog.globalNamed "strconv.ErrRange" = some 3 by kernel_rfl) (show (Tryz.prog.globals[3]?).map (·.type) = some 109 by kernel_rfl) Tryz.underlying109
  have gs := glb_err (Lib.laidMet.reads h (n := "strconv.ErrSyntax") (d := Rows.laid_strconv_ErrSyntax) (by simp [lay])) (show Tryz.prog.globalNamed "strconv.ErrSyntax" = some 2 by kernel_rfl) (show (Tryz.prog.globals[2]?).map (·.type) = some 109 by kernel_rfl) Tryz.underlying109
  obtain ⟨m, hm⟩ := cell_of_shapedOpen_int (g := 0) (t := 3) (zero := #[.int .i64 0]) (k := .i64) hsh (of_decide_eq_true (by kernel_rfl)) (by kernel_rfl) rfl (by kernel_rfl) (by kernel_rfl) Tryz.underlying3
  have hml : 0 < W.heap.size := World.block_lt_of_cell? W _ hm
  have one : ∀ {k : Nat} {ys : List Value}, En.glw k = 0 → ((En.gW W).G k ∧ (∀ (j : Nat) (x : Value), ys[j]? = some x → (En.gW W).W.cell? ⟨k, j, none⟩ = some x) ∧ ∃ t m, (En.gW W).W.heap[k]? = some (.cells ys.toArray t m)) → (En.gW W).G k ∧ En.GlRest (En.gW W).W k ys := fun h0 h =>
    ⟨h.1, fun _ => h.2, fun e => (by rw [h0] at e; cases e), fun e => (by rw [h0] at e; cases e)⟩
  have err : ∀ {k : Nat}, En.glw k = 2 → (k < W.heap.size ∧ ∃ te pe, W.cell? ⟨k, 0, none⟩ = some (.iface te pe)) → (En.gW W).G k ∧ En.GlRest (En.gW W).W k [] := fun h0 h =>
    ⟨h.1, fun e => (by rw [h0] at e; cases e), fun e => (by rw [h0] at e; cases e), fun _ => h.2⟩
  have num : (En.gW W).G 0 ∧ En.GlRest (En.gW W).W 0 [] := ⟨hml, fun e => (by cases e), fun _ => ⟨m, hm⟩, fun e => (by cases e)⟩
  intro k xs hk
  simp only [En.glb, En.look] at hk
  cases hb : Nat.beq 1 k with
  | true => rw [hb] at hk; have := Nat.eq_of_beq_eq_true hb; subst this; cases hk; exact one rfl gp
  | false =>
  rw [hb] at hk
  cases hb : Nat.beq 6 k with
  | true => rw [hb] at hk; have := Nat.eq_of_beq_eq_true hb; subst this; cases hk; exact one rfl gf
  | false =>
  rw [hb] at hk
  cases hb : Nat.beq 7 k with
  | true => rw [hb] at hk; have := Nat.eq_of_beq_eq_true hb; subst this; cases hk; exact one rfl ga
  | false =>
  rw [hb] at hk
  cases hb : Nat.beq 0 k with
  | true => rw [hb] at hk; have := Nat.eq_of_beq_eq_true hb; subst this; cases hk; exact num
  | false =>
  rw [hb] at hk
  cases hb : Nat.beq 2 k with
  | true => rw [hb] at hk; have := Nat.eq_of_beq_eq_true hb; subst this; cases hk; exact err rfl gs
  | false =>
  rw [hb] at hk
  cases hb : Nat.beq 3 k with
  | true => rw [hb] at hk; have := Nat.eq_of_beq_eq_true hb; subst this; cases hk; exact err rfl gr
  | false => rw [hb] at hk; cases hk
end Go.Proofs.YtbpbndlgfiammaaGreatDoor
