/- utf8.DecodeRune, strconv.Itoa and the tables that they read, in the reader's memory; a rune that separates words. Plain lemmas; no condition beyond their own hypotheses. -/
import Derived.Test.YtiokflebeojokaaGreatDoorEngCallG
import Derived.Test.YtiokflebeojokaaGreatDoorShelf14
import Derived.Test.YtiokflebeojokaaGreatDoorWordsP
import Derived.Lib.Hide
set_option linter.unusedSimpArgs false
set_option linter.unusedVariables false
set_option linter.unnecessarySimpa false
namespace Go.Proofs.YtiokflebeojokaaGreatDoor.En
open Go Go.RowKit

def baOf (xs : List Int) : ByteArray := ⟨(xs.map fun x => UInt8.ofNat x.toNat).toArray⟩
theorem ba_size (xs : List Int) : (baOf xs).size = xs.length := by simp [baOf, ByteArray.size]
theorem ba_get {xs : List Int} (hb : Cn.isBytes xs) (j : Nat) : ((baOf xs).get! j).toNat = (xs.getD j 0).toNat := by
  show ((xs.map fun x => UInt8.ofNat x.toNat).toArray[j]!).toNat = _
  by_cases hj : j < xs.length
  · have := hb xs[j] (List.getElem_mem hj)
    rw [getElem!_pos _ _ (by simpa using hj)]
    simp only [List.getElem_toArray, List.getElem_map, List.getD, List.getElem?_eq_getElem hj, Option.getD_some]
    rw [UInt8.toNat_ofNat']
    omega
  · rw [getElem!_neg _ _ (by simpa using hj)]
    simp [List.getD, List.getElem?_eq_none (by omega : xs.length ≤ j)]
    rfl
theorem dec_eq {xs : List Int} (hb : Cn.isBytes xs) (h0 : 0 < xs.length) : Lib.decodeGo (baOf xs) = Cn.decN xs := by
  have hs : (baOf xs).size ≠ 0 := by rw [ba_size]; omega
  simp only [Lib.decodeGo, hs, if_false]
  rw [Lib.decode_at, ba_get hb, ba_get hb, ba_get hb, ba_get hb, ba_size]
  rfl
theorem first_at : ∀ c : _root_.Fin 256, g_first[c.val]? = some ((Lib.firstT c.val : Nat) : Int) := by decide +kernel
theorem acc_at : ∀ i : _root_.Fin 16, g_accept[2 * i.val]? = some ((Lib.accLo i.val : Nat) : Int) ∧ g_accept[2 * i.val + 1]? = some ((Lib.accHi i.val : Nat) : Int) := by decide +kernel
theorem utf8_tabs {W : World} {G : Nat → Prop} (hgl : GlOk (g0 W G)) : Lib.Utf8Tabs 3 4 W := by
  obtain ⟨_, h1, _⟩ := hgl 3 (g_first.map (Value.int .u8)) rfl
  obtain ⟨_, h2, _⟩ := hgl 4 (g_accept.map (Value.int .u8)) rfl
  refine ⟨fun c hc => h1 c _ ?_, fun i hi => ⟨h2 (2 * i) _ ?_, h2 (2 * i + 1) _ ?_⟩⟩
  · rw [List.getElem?_map, first_at ⟨c, hc⟩]; rfl
  · rw [List.getElem?_map, (acc_at ⟨i, hi⟩).1]; rfl
  · rw [List.getElem?_map, (acc_at ⟨i, hi⟩).2]; rfl
theorem pow10_tab {W : World} {G : Nat → Prop} (hgl : GlOk (g0 W G)) : Lib.TabIs Tryz.prog W "internal/strconv.uint64pow10" .u64 Lib.pow10Tab := by
  obtain ⟨_, _, t, m, h⟩ := hgl 1 (g_pow10.map (Value.int .u64)) rfl
  unfold Lib.TabIs World.var?
  rw [show Tryz.prog.globalNamed "internal/strconv.uint64pow10" = some 1 by kernel_rfl]
  show (match W.heap[1]? with | some (.cells cs _ _) => some cs | _ => none) = _
  rw [show W.heap[1]? = _ from h]
  rfl
theorem dec_x {G : Nat → Prop} {W : World} (hgl : GlOk (g0 W G)) {xs : List Int} (hb : Cn.isBytes xs) (h0 : 0 < xs.length) (b off cap : Nat) (hc : ∀ j, j < xs.length → W.cell? ⟨b, off + j, none⟩ = some (.int .u8 (xs.getD j 0))) :
    CallsIn (FR none) 2 Tryz.prog 103 #[.slice (some ⟨b, off, none⟩) xs.length cap] W fun e W' => e = .returned (.tuple #[.int .i32 ((Cn.decN xs).1 : Nat), .int .i64 ((Cn.decN xs).2 : Nat)]) ∧ Below W.heap.size W W' := by
  have h := Any7.utf8_DecodeRune Tryz.shDecode (baOf xs) b off cap W (utf8_tabs hgl) (fun j hj => by
    rw [ba_size] at hj
    rw [hc j hj, ba_get hb]
    have hx := hb (xs.getD j 0) (by simp [List.getD, List.getElem?_eq_getElem hj])
    rw [show (((xs.getD j 0).toNat : Nat) : Int) = xs.getD j 0 by omega])
  rw [dec_eq hb h0, ba_size] at h
  exact callsIn_fr.2 h
set_option maxRecDepth 100000 in
theorem sep_x (r : Int) (W : World) : CallsIn (FR none) 2 Tryz.prog 85 #[.int .i32 r] W fun e W' => e = .returned (.bool (Cn.sepB r)) ∧ W' = W := by
  refine callsIn_fr.2 ?_
  go_enter Tryz.func85, Tryz.ntmps85
  cases h1 : (r == 32) <;> cases h2 : (r == 9) <;> cases h3 : (r == 13) <;> (go_wp2_with fail; go_ret; exact ⟨by simp [Cn.sepB, h1, h2, h3], rfl⟩)
end Go.Proofs.YtiokflebeojokaaGreatDoor.En
