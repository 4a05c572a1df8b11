/- What the rows of layer 14 have in common: the tables that start-up lays (strconv's powers of ten, utf8's two) stand where the engine reads them; the door's own heap meets the list. -/
import Derived.Test.YtiokflebeojokaaGreatDoorRowE14
import Derived.Test.YtiokflebeojokaaGreatDoorRows
import Derived.ProofKit
import Derived.LaidMore
import Derived.Lay
import Derived.LaidHandle
import Derived.MakeChecks
import Derived.OpenShut
import Derived.Stop.Joined
import Derived.Lib.LaidU8
namespace Go.Proofs.YtiokflebeojokaaGreatDoor
open Go.ChangeShapes Go.WideShapes Go.ChangeAt Go.RowKit
set_option linter.unusedVariables false

abbrev lay : List (String × DataW Unit) := [("math/bits.deBruijn32tab", Rows.laid_math_bits_deBruijn32tab), ("math/bits.deBruijn64tab", Rows.laid_math_bits_deBruijn64tab), ("internal/strconv.uint64pow10", Rows.laid_internal_strconv_uint64pow10), ("unicode/utf8.acceptRanges", Rows.laid_unicode_utf8_acceptRanges), ("bytes.ErrTooLarge", Rows.laid_bytes_ErrTooLarge), ("unicode/utf8.first", Rows.laid_unicode_utf8_first)]
set_option maxRecDepth 100000 in
theorem door_met (os : Os) (args : Array Value) : laidMetH Tryz.prog lay ((World.laidAll Tryz.prog os lay).forCall (fun _ _ => 0) ⟨#[], args, []⟩).memory := by
  rw [MakeChecks.laidMetH_plain _ _ _ (by kernel_rfl)]
  exact laidMet_laidAll args (by kernel_rfl) (by kernel_rfl)

set_option maxRecDepth 100000 in
theorem shaped_all (os : Os) : (World.laidAll Tryz.prog os lay).Shaped Tryz.prog := World.shaped_of_ZipB (by kernel_rfl) (by kernel_rfl)

theorem glb_one {P : Program} {W : World} {n : String} {k : Nat} {cs : Array Value} {xs : List Value} (hg : P.globalNamed n = some k) (hv : W.var? P n = some cs) (hc : cs.toList = xs) :
    k < W.heap.size ∧ (∀ (j : Nat) (x : Value), xs[j]? = some x → W.cell? ⟨k, j, none⟩ = some x) ∧ ∃ t m, W.heap[k]? = some (.cells xs.toArray t m) := by
  have hcs : cs = xs.toArray := by rw [← hc]
  subst hcs
  have h1 := fun j => World.var?_cell hg hv j
  simp only [World.var?, hg, Option.bind_some] at hv
  split at hv
  · rename_i c t m hb
    cases hv
    refine ⟨?_, fun j x hj => ?_, t, m, hb⟩
    · by_cases h : k < W.heap.size
      · exact h
      · rw [Array.getElem?_eq_none (by omega)] at hb; cases hb
    · rw [h1 j]; simpa using hj
  · cases hv

def acc : List (List Int) := [[128, 191], [160, 191], [128, 159], [144, 191], [128, 143], [0, 0], [0, 0], [0, 0], [0, 0], [0, 0], [0, 0], [0, 0], [0, 0], [0, 0], [0, 0], [0, 0]]
theorem laid_acc : (Rows.laid_unicode_utf8_acceptRanges : DataW Unit) = .agg (acc.map fun l => .agg (l.map fun z => .lit (.int .u8 z))) := rfl
theorem laid_pow : (Rows.laid_internal_strconv_uint64pow10 : DataW Unit) = Lib.tabData .u64 En.g_pow10 := rfl
set_option maxRecDepth 100000 in
theorem laid_first : Rows.laid_unicode_utf8_first = Lib.tabData .u8 En.g_first := by
  show DataW.agg (Go.Pinned.numbers .u8 Go.Pinned.utf8FirstZ) = .agg _
  rw [show En.g_first = Go.Pinned.utf8FirstZ.map Int.ofNat by decide +kernel, List.map_map]
  rfl
theorem get_some {l : List Int} {i : Nat} (h : i < l.length) : l[i]? = some (l.getD i 0) := by rw [List.getD_eq_getElem?_getD, List.getElem?_eq_getElem h]; rfl
theorem acc_at : ∀ i, i < 16 → ∀ j, j < 2 → (acc.getD i []).getD j 0 = En.g_accept.getD (2 * i + j) 0 := by decide
theorem acc_len : ∀ i, i < 16 → (acc.getD i []).length = 2 := by decide
set_option maxRecDepth 100000 in
theorem glOk_of_laid {W : World} (h : laidMetH Tryz.prog lay W) : En.GlOk (En.gW W) := by
  rw [MakeChecks.laidMetH_plain _ _ _ (by kernel_rfl)] at h
  have hp := Lib.laidMet.reads h (n := "internal/strconv.uint64pow10") (d := Rows.laid_internal_strconv_uint64pow10) (by simp [lay])
  have hf := Lib.laidMet.reads h (n := "unicode/utf8.first") (d := Rows.laid_unicode_utf8_first) (by simp [lay])
  have ha := Lib.laidMet.reads h (n := "unicode/utf8.acceptRanges") (d := Rows.laid_unicode_utf8_acceptRanges) (by simp [lay])
  rw [laid_pow] at hp
  rw [laid_first] at hf
  rw [laid_acc] at ha
  have kp : Tryz.prog.globalNamed "internal/strconv.uint64pow10" = some 1 := by kernel_rfl
  have kf : Tryz.prog.globalNamed "unicode/utf8.first" = some 3 := by kernel_rfl
  have ka : Tryz.prog.globalNamed "unicode/utf8.acceptRanges" = some 4 := by kernel_rfl
  have gp : (En.gW W).G 1 ∧ (∀ (j : Nat) (x : Value), (En.g_pow10.map (Value.int .u64))[j]? = some x → (En.gW W).W.cell? ⟨1, j, none⟩ = some x) ∧ ∃ t m, (En.gW W).W.heap[1]? = some (.cells ((En.g_pow10.map (Value.int .u64))).toArray t m) := by
    obtain ⟨g, t, cs, fuel, p, hg, hty, hvar, hd⟩ := hp
    obtain rfl := Option.some.inj (kp.symm.trans hg)
    obtain rfl := Option.some.inj ((show (Tryz.prog.globals[1]?).map (·.type) = some 136 by kernel_rfl).symm.trans hty)
    exact glb_one kp hvar (Lib.cells_of_tab Tryz.underlying136 Tryz.underlying115 (by kernel_rfl) (by kernel_rfl) hd)
  have gf : (En.gW W).G 3 ∧ (∀ (j : Nat) (x : Value), (En.g_first.map (Value.int .u8))[j]? = some x → (En.gW W).W.cell? ⟨3, j, none⟩ = some x) ∧ ∃ t m, (En.gW W).W.heap[3]? = some (.cells ((En.g_first.map (Value.int .u8))).toArray t m) := by
    obtain ⟨g, t, cs, fuel, p, hg, hty, hvar, hd⟩ := hf
    obtain rfl := Option.some.inj (kf.symm.trans hg)
    obtain rfl := Option.some.inj ((show (Tryz.prog.globals[3]?).map (·.type) = some 140 by kernel_rfl).symm.trans hty)
    exact glb_one kf hvar (Lib.cells_of_tab Tryz.underlying140 Tryz.underlying5 (by kernel_rfl) (by kernel_rfl) hd)
  have ga : (En.gW W).G 4 ∧ (∀ (j : Nat) (x : Value), (En.g_accept.map (Value.int .u8))[j]? = some x → (En.gW W).W.cell? ⟨4, j, none⟩ = some x) ∧ ∃ t m, (En.gW W).W.heap[4]? = some (.cells ((En.g_accept.map (Value.int .u8))).toArray t m) := by
    obtain ⟨g, t, cs, fuel, p, hg, hty, hvar, hd⟩ := ha
    obtain rfl := Option.some.inj (ka.symm.trans hg)
    obtain rfl := Option.some.inj ((show (Tryz.prog.globals[4]?).map (·.type) = some 143 by kernel_rfl).symm.trans hty)
    have hcs : cs.toList = En.g_accept.map (Value.int .u8) := by
      have hlen : cs.toList.length = 32 := by
        obtain ⟨_, _, _, _, hl, _⟩ := DataW.trod_array Tryz.underlying143 hd
        rw [hl]; kernel_rfl
      apply List.ext_getElem?
      intro i
      by_cases hi : i < 32
      · have hq : i / 2 < 16 := by omega
        obtain ⟨fuel', d, q, hdi, he⟩ := Lib.array_elem Tryz.underlying143 hd (i / 2) hq
        simp only [List.getElem?_map] at hdi
        rw [show acc[i / 2]? = some (acc.getD (i / 2) []) by rw [List.getD_eq_getElem?_getD, List.getElem?_eq_getElem (by show i / 2 < 16; exact hq)]; rfl] at hdi
        simp only [Option.map_some, Option.some.injEq] at hdi
        subst hdi
        rw [show Tryz.prog.cellsOf 142 = 2 by kernel_rfl] at he
        have hcs := Lib.ints_of_struct Tryz.underlying142 (fun j f hj => by
          match j, hj with
          | 0, hj => cases hj; exact ⟨Tryz.underlying5, rfl, by kernel_rfl⟩
          | 1, hj => cases hj; exact ⟨Tryz.underlying5, rfl, by kernel_rfl⟩
          | j + 2, hj => simp at hj) (by kernel_rfl) he
        have h2 := congrArg (·[i % 2]?) hcs
        simp only [List.getElem?_take, List.getElem?_drop, List.getElem?_map] at h2
        rw [if_pos (by omega), show i / 2 * 2 + i % 2 = i by omega] at h2
        rw [h2, List.getElem?_map]
        have e1 : (acc.getD (i / 2) [])[i % 2]? = some ((acc.getD (i / 2) []).getD (i % 2) 0) := get_some (by rw [acc_len _ hq]; omega)
        have e2 : En.g_accept[i]? = some (En.g_accept.getD i 0) := get_some (by show i < 32; exact hi)
        rw [e1, e2, acc_at _ hq _ (by omega), show 2 * (i / 2) + i % 2 = i by omega]
      · rw [List.getElem?_eq_none (by omega), List.getElem?_eq_none (by simp [En.g_accept]; omega)]
    exact glb_one ka hvar hcs
  intro k xs hk
  simp only [En.glb, En.look] at hk
  cases hb : Nat.beq 1 k with
  | true => rw [hb] at hk; have := Nat.eq_of_beq_eq_true hb; subst this; cases hk; exact gp
  | false =>
    rw [hb] at hk
    cases hb : Nat.beq 3 k with
    | true => rw [hb] at hk; have := Nat.eq_of_beq_eq_true hb; subst this; cases hk; exact gf
    | false =>
      rw [hb] at hk
      cases hb : Nat.beq 4 k with
      | true => rw [hb] at hk; have := Nat.eq_of_beq_eq_true hb; subst this; cases hk; exact ga
      | false => rw [hb] at hk; cases hk
end Go.Proofs.YtiokflebeojokaaGreatDoor
