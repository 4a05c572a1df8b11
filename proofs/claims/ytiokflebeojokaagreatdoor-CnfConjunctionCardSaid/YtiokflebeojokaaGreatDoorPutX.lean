/- cnf.Put: what it writes, at every formula that is not too long. -/
import Derived.Test.YtiokflebeojokaaGreatDoorDecX
import Derived.Test.YtiokflebeojokaaGreatDoorPutP
import Derived.Test.YtiokflebeojokaaGreatDoorCnfS
import Derived.Lib.BufferOld
import Derived.Lib.AppendIntMem
set_option linter.unusedSimpArgs false
set_option linter.unusedVariables false
set_option linter.unnecessarySimpa false
namespace Go.Proofs.YtiokflebeojokaaGreatDoor.En
open Go Go.RowKit

theorem itoa_x {G : Nat → Prop} {W : World} (hgl : GlOk (g0 W G)) {n : Int} (h0 : -9223372036854775808 ≤ n) (h1 : n ≤ 9223372036854775807) :
    Calls Tryz.prog 64 #[I64 n] W fun e w' => e = .returned (.string ⟨(Lib.itoa n).toArray⟩) ∧ Below W.heap.size W w' := by
  refine (Any.strconv_Itoa Tryz.shItoa n h0 h1 W (pow10_tab hgl)).mono fun e w' he => ?_
  obtain ⟨rfl, k, os, rfl⟩ := he
  exact ⟨rfl, Lib.below_grow _ W (Nat.le_refl _) k os⟩
/-- a buffer in block b that holds the bytes xs -/
def Bf (B b : Nat) (xs : List Int) (W : World) : Prop := Lib.IsBuffer 75 5 B b (Cn.bytesC xs) W
/-- what a write leaves as it was -/
def Fr (B b : Nat) (W W' : World) : Prop := Below B W W' ∧ Lib.OthersKept 5 (some b) W W'
theorem Fr.trans {B b : Nat} {A C D : World} (h : Fr B b A C) (h' : Fr B b C D) : Fr B b A D := ⟨h.1.trans h'.1, h.2.trans h'.2⟩
theorem Fr.refl (B b : Nat) (W : World) : Fr B b W W := ⟨Below.refl _ _, Lib.OthersKept.refl _ _ _⟩
theorem Fr.of_below {B b : Nat} {W W' : World} (hB : B ≤ W.heap.size) (h : Below W.heap.size W W') : Fr B b W W' :=
  ⟨⟨h.os, h.tape, h.output, h.size, fun k hk => h.block k (Nat.lt_of_lt_of_le hk hB)⟩, (Lib.OthersKept.refl _ _ W).below h⟩
theorem Bf.old {B b : Nat} {xs : List Int} {W W' : World} (h : Bf B b xs W) (hb : Below W.heap.size W W') : Bf B b xs W' := Lib.IsBuffer.old h hb
theorem one_cells (xs : List Int) : ∀ v ∈ Cn.bytesC xs, v.oneCell' = true := fun v hv => by
  obtain ⟨x, _, rfl⟩ := List.mem_map.1 hv
  rfl
theorem ws_x {B b : Nat} {xs ys : List Int} {s : ByteArray} {W : World} (h : Bf B b xs W) (hB : B ≤ W.heap.size) (hs : Lib.byteCells s.data.toList = Cn.bytesC ys) (hlim : xs.length + ys.length ≤ 140737488355328) :
    Calls Tryz.prog 63 #[.pointer (some ⟨b, 0, none⟩), .string s] W fun e w' => e = .returned (.tuple #[.int .i64 s.size, .nilIface]) ∧ Bf B b (xs ++ ys) w' ∧ Fr B b W w' := by
  have hl : s.size = ys.length := by
    have := congrArg List.length hs
    rw [Lib.byteCells_length, Cn.bytesC_len] at this
    rw [← this]; rfl
  refine (Any.Buffer_WriteString_k Tryz.shWriteS B b (Cn.bytesC xs) s W h hB (one_cells xs) (by rw [Cn.bytesC_len, hl]; exact hlim)).mono fun e w' he => ?_
  obtain ⟨rfl, h1, h2, h3⟩ := he
  rw [hs, ← Cn.bytesC_app] at h1
  exact ⟨rfl, h1, h2, h3⟩
theorem wb_x {B b : Nat} {xs : List Int} {c : Int} {W : World} (h : Bf B b xs W) (hB : B ≤ W.heap.size) (hlim : xs.length + 1 ≤ 140737488355328) :
    Calls Tryz.prog 65 #[.pointer (some ⟨b, 0, none⟩), .int .u8 c] W fun e w' => e = .returned .nilIface ∧ Bf B b (xs ++ [c]) w' ∧ Fr B b W w' := by
  refine (Any.Buffer_WriteByte_k Tryz.shWriteB B b (Cn.bytesC xs) c W h hB (one_cells xs) (by rw [Cn.bytesC_len]; exact hlim)).mono fun e w' he => ?_
  obtain ⟨rfl, h1, h2, h3⟩ := he
  rw [show ([Value.int .u8 c] : List Value) = Cn.bytesC [c] from rfl, ← Cn.bytesC_app] at h1
  exact ⟨rfl, h1, h2, h3⟩
theorem itoa_cells (n : Int) : Lib.byteCells (⟨(Lib.itoa n).toArray⟩ : ByteArray).data.toList = Cn.bytesC (Cn.itoaI n) := by rw [← Cn.bytesC_itoa]
set_option maxRecDepth 100000 in
set_option maxHeartbeats 1000000 in
theorem put1_x {G : Nat → Prop} {W : World} {B b : Nat} (hgl : ∀ W', Fr B b W W' → GlOk (g0 W' G)) (hBW : B ≤ W.heap.size) (xs l : List Int) (hbf : Bf B b xs W) (hlit : ∀ x ∈ l, -65536 ≤ x ∧ x ≤ 65536) (A : Option Addr) (cp : Nat)
    (hrd : ∀ W', Fr B b W W' → ∀ j, j < l.length → ∃ bk off, A = some ⟨bk, off, none⟩ ∧ W'.cell? ⟨bk, off + j, none⟩ = some (I64 (l.getD j 0))) (hm : l.length ≤ maxLen)
    (en : ByteArray) (ys : List Int) (hen : Lib.byteCells en.data.toList = Cn.bytesC ys) (hlim : xs.length + 22 * l.length + ys.length ≤ 140737488355328) :
    Calls Tryz.prog 62 #[.slice A l.length cp, .string en, .pointer (some ⟨b, 0, none⟩)] W fun e w' => e = .returned (.tuple #[]) ∧ Bf B b (xs ++ Cn.litsB l ++ ys) w' ∧ Fr B b W w' := by
  unfold maxLen at hm
  have HRD := Lib.hid hrd
  have HGL := Lib.hid hgl
  have HBF := Lib.hid hbf
  have HBW := Lib.hid hBW
  have HEN := Lib.hid hen
  have HLL := Lib.hid (fun k (hk : k ≤ l.length) => show (Cn.litsB (l.take k)).length ≤ 22 * k from by
    have := Cn.lits_len (l := l.take k) (fun x hx => hlit x (List.mem_of_mem_take hx))
    rw [List.length_take, Nat.min_eq_left hk] at this
    exact this)
  have HLI := Lib.hid (fun k (hk : k < l.length) => hlit (l.getD k 0) (by simp [List.getD, List.getElem?_eq_getElem hk]))
  clear hrd hgl hbf hBW hen hlit
  go_enter Tryz.func62, Tryz.ntmps62
  go_wp2_with fail
  go_loopw [9] (fun iv wr => ∃ k : Nat, iv = .int .i64 k ∧ k ≤ l.length ∧ Fr B b W wr ∧ Bf B b (xs ++ Cn.litsB (l.take k)) wr) (fun iv _ => l.length - (intOf iv).toNat)
  case atStart => exact ⟨0, rfl, Nat.zero_le _, Fr.refl _ _ _, by rw [show Cn.litsB (l.take 0) = [] by simp [Cn.litsB], List.append_nil]; exact HBF.out⟩
  case round =>
    obtain ⟨k, rfl, hk, hfr, hbf⟩ := hrel
    have HFR := Lib.hid hfr
    have HB2 := Lib.hid hbf
    clear hfr hbf
    have HSZ := Lib.hid (show B ≤ wr.heap.size from Nat.le_trans HBW.out HFR.out.1.size)
    by_cases hlt : k < l.length
    · obtain ⟨bk, off, rfl, hcell⟩ := HRD.out wr HFR.out k hlt
      have HTK := Lib.hid (Cn.lits_take hlt)
      have HLK := Lib.hid (HLL.out k hk)
      have HXR := Lib.hid (HLI.out k hlt)
      generalize l.getD k 0 = x at hcell HTK HXR
      have HIT := Lib.hid (itoa_x (HGL.out wr HFR.out) (n := x) (by have := HXR.out; omega) (by have := HXR.out; omega))
      have HIL := Lib.hid (Cn.itoa_len (n := x) (by have := HXR.out; omega) (by have := HXR.out; omega))
      go_wp2_with fail
      refine HIT.out.mono ?_
      rintro e w2 ⟨rfl, hb2⟩
      have HF2 := Lib.hid (HFR.out.trans (Fr.of_below HSZ.out hb2))
      have HB3 := Lib.hid (HB2.out.old hb2)
      have HS2 := Lib.hid (Nat.le_trans HSZ.out hb2.size)
      clear hb2 hcell
      go_wp2_with fail
      refine (ws_x HB3.out HS2.out (itoa_cells x) (by have := HIL.out; have := HLK.out; simp only [List.length_append]; omega)).mono ?_
      rintro e w3 ⟨rfl, hb3, hf3⟩
      have HF3 := Lib.hid (HF2.out.trans hf3)
      have HB4 := Lib.hid hb3
      have HS3 := Lib.hid (Nat.le_trans HS2.out hf3.1.size)
      clear hb3 hf3
      go_wp2_with fail
      refine (wb_x HB4.out HS3.out (by have := HIL.out; have := HLK.out; simp only [List.length_append]; omega)).mono ?_
      rintro e w4 ⟨rfl, hb4, hf4⟩
      have HF4 := Lib.hid (HF3.out.trans hf4)
      have HB5 := Lib.hid hb4
      clear hb4 hf4
      go_wp2_with fail
      go_roundw
      case rel => exact ⟨k + 1, by go_num, hlt, HF4.out, by rw [HTK.out]; simpa only [List.append_assoc] using HB5.out⟩
      case measure => simp [intOf]; omega
    · obtain rfl : k = l.length := by omega
      have HLK := Lib.hid (HLL.out l.length (Nat.le_refl _))
      go_wp2_with fail
      refine (ws_x HB2.out HSZ.out HEN.out (by have := HLK.out; simp only [List.length_append]; omega)).mono ?_
      rintro e w3 ⟨rfl, hb3, hf3⟩
      have HF3 := Lib.hid (HFR.out.trans hf3)
      have HB4 := Lib.hid hb3
      clear hb3 hf3
      go_wp2_with fail
      first | go_end0 | go_ret | go_ret2
      exact ⟨rfl, by have := HB4.out; rwa [List.take_length] at this, HF3.out⟩
end Go.Proofs.YtiokflebeojokaaGreatDoor.En
