/- cnf.Put: what it writes, at every formula that is not too long. -/
import Derived.Test.YtiokflebeojokaaGreatDoorDecX
import Derived.Test.YtiokflebeojokaaGreatDoorPutP
import Derived.Test.YtiokflebeojokaaGreatDoorCnfS
import Derived.Lib.BufferOld
import Derived.Lib.AppendIntMem
import Derived.Deep.RegionHeld3
set_option linter.unusedSimpArgs false
set_option linter.unusedVariables false
set_option linter.unnecessarySimpa false
namespace Go.Proofs.YtiokflebeojokaaGreatDoor.En
open Go Go.RowKit

theorem itoa_x {G : Nat → Prop} {W : World} (hgl : GlOk (g0 W G)) {n : Int} (h0 : -9223372036854775808 ≤ n) (h1 : n ≤ 9223372036854775807) :
    Calls Tryz.prog 64 #[I64 n] W fun e w' => e = .returned (.string ⟨(Lib.itoa n).toArray⟩) ∧ Below W.heap.size W w' := by
  refine (Any.strconv_Itoa Tryz.shItoa n h0 h1 W (pow10_tab hgl)).mono fun e w' he => ?_
  obtain ⟨rfl, k, os, rfl⟩ := he
  exact ⟨rfl, Lib.below_grow _ W (Nat.le_refl _) k os⟩
/-- a buffer in block b that holds the bytes xs -/
def Bf (B b : Nat) (xs : List Int) (W : World) : Prop := Lib.IsBuffer 75 5 B b (Cn.bytesC xs) W
/-- what a write leaves as it was -/
def Fr (B b : Nat) (W W' : World) : Prop := Below B W W' ∧ Lib.OthersKept 5 (some b) W W'
theorem Fr.trans {B b : Nat} {A C D : World} (h : Fr B b A C) (h' : Fr B b C D) : Fr B b A D := ⟨h.1.trans h'.1, h.2.trans h'.2⟩
theorem Fr.refl (B b : Nat) (W : World) : Fr B b W W := ⟨Below.refl _ _, Lib.OthersKept.refl _ _ _⟩
theorem Fr.of_below {B b : Nat} {W W' : World} (hB : B ≤ W.heap.size) (h : Below W.heap.size W W') : Fr B b W W' :=
  ⟨⟨h.os, h.tape, h.output, h.size, fun k hk => h.block k (Nat.lt_of_lt_of_le hk hB)⟩, (Lib.OthersKept.refl _ _ W).below h⟩
theorem Bf.old {B b : Nat} {xs : List Int} {W W' : World} (h : Bf B b xs W) (hb : Below W.heap.size W W') : Bf B b xs W' := Lib.IsBuffer.old h hb
theorem one_cells (xs : List Int) : ∀ v ∈ Cn.bytesC xs, v.oneCell' = true := fun v hv => by
  obtain ⟨x, _, rfl⟩ := List.mem_map.1 hv
  rfl
theorem ws_x {B b : Nat} {xs ys : List Int} {s : ByteArray} {W : World} (h : Bf B b xs W) (hB : B ≤ W.heap.size) (hs : Lib.byteCells s.data.toList = Cn.bytesC ys) (hlim : xs.length + ys.length ≤ 140737488355328) :
    Calls Tryz.prog 63 #[.pointer (some ⟨b, 0, none⟩), .string s] W fun e w' => e = .returned (.tuple #[.int .i64 s.size, .nilIface]) ∧ Bf B b (xs ++ ys) w' ∧ Fr B b W w' := by
  have hl : s.size = ys.length := by
    have := congrArg List.length hs
    rw [Lib.byteCells_length, Cn.bytesC_len] at this
    rw [← this]; rfl
  refine (Any.Buffer_WriteString_k Tryz.shWriteS B b (Cn.bytesC xs) s W h hB (one_cells xs) (by rw [Cn.bytesC_len, hl]; exact hlim)).mono fun e w' he => ?_
  obtain ⟨rfl, h1, h2, h3⟩ := he
  rw [hs, ← Cn.bytesC_app] at h1
  exact ⟨rfl, h1, h2, h3⟩
theorem wb_x {B b : Nat} {xs : List Int} {c : Int} {W : World} (h : Bf B b xs W) (hB : B ≤ W.heap.size) (hlim : xs.length + 1 ≤ 140737488355328) :
    Calls Tryz.prog 65 #[.pointer (some ⟨b, 0, none⟩), .int .u8 c] W fun e w' => e = .returned .nilIface ∧ Bf B b (xs ++ [c]) w' ∧ Fr B b W w' := by
  refine (Any.Buffer_WriteByte_k Tryz.shWriteB B b (Cn.bytesC xs) c W h hB (one_cells xs) (by rw [Cn.bytesC_len]; exact hlim)).mono fun e w' he => ?_
  obtain ⟨rfl, h1, h2, h3⟩ := he
  rw [show ([Value.int .u8 c] : List Value) = Cn.bytesC [c] from rfl, ← Cn.bytesC_app] at h1
  exact ⟨rfl, h1, h2, h3⟩
theorem itoa_cells (n : Int) : Lib.byteCells (⟨(Lib.itoa n).toArray⟩ : ByteArray).data.toList = Cn.bytesC (Cn.itoaI n) := by rw [← Cn.bytesC_itoa]
set_option maxRecDepth 100000 in
set_option maxHeartbeats 1000000 in
theorem put1_x {G : Nat → Prop} {W : World} {B b : Nat} (hgl : ∀ W', Fr B b W W' → GlOk (g0 W' G)) (hBW : B ≤ W.heap.size) (xs l : List Int) (hbf : Bf B b xs W) (hlit : ∀ x ∈ l, -65536 ≤ x ∧ x ≤ 65536) (A : Option Addr) (cp : Nat)
    (hrd : ∀ W', Fr B b W W' → ∀ j, j < l.length → ∃ bk off, A = some ⟨bk, off, none⟩ ∧ W'.cell? ⟨bk, off + j, none⟩ = some (I64 (l.getD j 0))) (hm : l.length ≤ maxLen)
    (en : ByteArray) (ys : List Int) (hen : Lib.byteCells en.data.toList = Cn.bytesC ys) (hlim : xs.length + 22 * l.length + ys.length ≤ 140737488355328) :
    Calls Tryz.prog 62 #[.slice A l.length cp, .string en, .pointer (some ⟨b, 0, none⟩)] W fun e w' => e = .returned (.tuple #[]) ∧ Bf B b (xs ++ Cn.litsB l ++ ys) w' ∧ Fr B b W w' := by
  unfold maxLen at hm
  have HRD := Lib.hid hrd
  have HGL := Lib.hid hgl
  have HBF := Lib.hid hbf
  have HBW := Lib.hid hBW
  have HEN := Lib.hid hen
  have HLL := Lib.hid (fun k (hk : k ≤ l.length) => show (Cn.litsB (l.take k)).length ≤ 22 * k from by
    have := Cn.lits_len (l := l.take k) (fun x hx => hlit x (List.mem_of_mem_take hx))
    rw [List.length_take, Nat.min_eq_left hk] at this
    exact this)
  have HLI := Lib.hid (fun k (hk : k < l.length) => hlit (l.getD k 0) (by simp [List.getD, List.getElem?_eq_getElem hk]))
  clear hrd hgl hbf hBW hen hlit
  go_enter Tryz.func62, Tryz.ntmps62
  go_wp2_with fail
  go_loopw [9] (fun iv wr => ∃ k : Nat, iv = .int .i64 k ∧ k ≤ l.length ∧ Fr B b W wr ∧ Bf B b (xs ++ Cn.litsB (l.take k)) wr) (fun iv _ => l.length - (intOf iv).toNat)
  case atStart => exact ⟨0, rfl, Nat.zero_le _, Fr.refl _ _ _, by rw [show Cn.litsB (l.take 0) = [] by simp [Cn.litsB], List.append_nil]; exact HBF.out⟩
  case round =>
    obtain ⟨k, rfl, hk, hfr, hbf⟩ := hrel
    have HFR := Lib.hid hfr
    have HB2 := Lib.hid hbf
    clear hfr hbf
    have HSZ := Lib.hid (show B ≤ wr.heap.size from Nat.le_trans HBW.out HFR.out.1.size)
    by_cases hlt : k < l.length
    · obtain ⟨bk, off, rfl, hcell⟩ := HRD.out wr HFR.out k hlt
      have HTK := Lib.hid (Cn.lits_take hlt)
      have HLK := Lib.hid (HLL.out k hk)
      have HXR := Lib.hid (HLI.out k hlt)
      generalize l.getD k 0 = x at hcell HTK HXR
      have HIT := Lib.hid (itoa_x (HGL.out wr HFR.out) (n := x) (by have := HXR.out; omega) (by have := HXR.out; omega))
      have HIL := Lib.hid (Cn.itoa_len (n := x) (by have := HXR.out; omega) (by have := HXR.out; omega))
      go_wp2_with fail
      refine HIT.out.mono ?_
      rintro e w2 ⟨rfl, hb2⟩
      have HF2 := Lib.hid (HFR.out.trans (Fr.of_below HSZ.out hb2))
      have HB3 := Lib.hid (HB2.out.old hb2)
      have HS2 := Lib.hid (Nat.le_trans HSZ.out hb2.size)
      clear hb2 hcell
      go_wp2_with fail
      refine (ws_x HB3.out HS2.out (itoa_cells x) (by have := HIL.out; have := HLK.out; simp only [List.length_append]; omega)).mono ?_
      rintro e w3 ⟨rfl, hb3, hf3⟩
      have HF3 := Lib.hid (HF2.out.trans hf3)
      have HB4 := Lib.hid hb3
      have HS3 := Lib.hid (Nat.le_trans HS2.out hf3.1.size)
      clear hb3 hf3
      go_wp2_with fail
      refine (wb_x HB4.out HS3.out (by have := HIL.out; have := HLK.out; simp only [List.length_append]; omega)).mono ?_
      rintro e w4 ⟨rfl, hb4, hf4⟩
      have HF4 := Lib.hid (HF3.out.trans hf4)
      have HB5 := Lib.hid hb4
      clear hb4 hf4
      go_wp2_with fail
      go_roundw
      case rel => exact ⟨k + 1, by go_num, hlt, HF4.out, by rw [HTK.out]; simpa only [List.append_assoc] using HB5.out⟩
      case measure => simp [intOf]; omega
    · obtain rfl : k = l.length := by omega
      have HLK := Lib.hid (HLL.out l.length (Nat.le_refl _))
      go_wp2_with fail
      refine (ws_x HB2.out HSZ.out HEN.out (by have := HLK.out; simp only [List.length_append]; omega)).mono ?_
      rintro e w3 ⟨rfl, hb3, hf3⟩
      have HF3 := Lib.hid (HFR.out.trans hf3)
      have HB4 := Lib.hid hb3
      clear hb3 hf3
      go_wp2_with fail
      first | go_end0 | go_ret | go_ret2
      exact ⟨rfl, by have := HB4.out; rwa [List.take_length] at this, HF3.out⟩
end Go.Proofs.YtiokflebeojokaaGreatDoor.En
namespace Go.Proofs.YtiokflebeojokaaGreatDoor.En
open Go Go.RowKit

theorem chk_x {G : Nat → Prop} {W : World} (hG : ∀ b, G b → b < W.heap.size) (hgl : GlOk (g0 W G)) {N : Int} {L : List (List Int)} {v : Value} (hl : L.length ≤ maxLen) (hll : ∀ l ∈ L, l.length ≤ maxLen) (hv : Den (g0 W G) (.intss L) v) :
    Calls Tryz.prog 17 #[.agg #[I64 N, v]] W fun e W' => e = .returned (I64 (Cn.chkV N L)) ∧ Below W.heap.size W W' := by
  have h := cCheck_sound.callsG hG hgl (args := [.agg [.int N, .intss L]]) (vs := [.agg #[I64 N, v]]) rfl ⟨hl, hll⟩
    (by simp only [DenL]; exact ⟨_, _, rfl, (by rw [Den]; exact ⟨[_, _], rfl, by simp only [DenL]; exact ⟨_, _, rfl, den_val_mk _, _, _, rfl, hv, rfl⟩⟩), rfl⟩)
  refine Calls.mono h fun e w' he => ?_
  obtain ⟨u, rfl, hb, g', _, _, hd⟩ := he
  rw [den_val hd]
  exact ⟨rfl, hb⟩
theorem rep_own {B n0 : Nat} {v : Value} {xs : List Int} {w : World} {G : Nat → Prop} (h : w.ownsRow B 5 1 v (Cn.bytesC xs).length (Cn.bytesC xs)) (hB : n0 ≤ B) (hm : xs.length ≤ maxLen) : Rep w (fun b => G b ∨ (n0 ≤ b ∧ b < w.heap.size)) (.ls (.bytes xs)) v := by
  have ho := Own.of_row h
  refine rep_row (l := .bytes xs) (xs := Cn.bytesC xs) (.of_one ho (Cn.bytesC_len xs)) hm (fun i j hi hj => ?_) (fun b hb => .inr ⟨?_, ?_⟩)
  · have hj0 : j = 0 := by have : j < 1 := hj
                           omega
    have hi' : i < xs.length := hi
    subst hj0
    show Rep _ _ (.val (.int .u8 (xs.getD i 0))) ((Cn.bytesC xs).getD (i * 1 + 0) undef)
    have e : (Cn.bytesC xs).getD (i * 1 + 0) undef = .int .u8 (xs.getD i 0) := by simp [Cn.bytesC, List.getD, List.getElem?_eq_getElem hi']
    rw [e]
    exact .val _
  · rw [own_blk ho] at hb
    rcases h.2 with ⟨hn, _⟩ | ⟨g, cap, cur, hv, hbg, _⟩
    · rw [hn] at hb; simp [Value.ownBlock] at hb
    · rw [hv] at hb
      have : g = b := by simpa [Value.ownBlock] using hb
      omega
  · rw [own_blk ho] at hb
    exact ho.lt hb
theorem fresh_bf (w : World) : Bf w.heap.size w.heap.size [] (w.alloc (.cells #[.slice none 0 0, .int .i64 0, .int .i8 0] 75)) := Lib.fresh_isBuffer _ _ w
theorem lit_pcnf : Lib.byteCells (⟨#[112, 32, 99, 110, 102, 32]⟩ : ByteArray).data.toList = Cn.bytesC [112, 32, 99, 110, 102, 32] := by rfl
theorem lit_0n : Lib.byteCells (⟨#[48, 10]⟩ : ByteArray).data.toList = Cn.bytesC [48, 10] := by rfl
set_option maxRecDepth 100000 in
set_option maxHeartbeats 1000000 in
theorem put_x {G : Nat → Prop} {W : World} (hG : ∀ b, G b → b < W.heap.size) (hgl : GlOk (g0 W G)) (N : Int) (L : List (List Int)) (A : Option Addr) (cp : Nat) (AA : Nat → Option Addr) (cc : Nat → Nat)
    (hA : ∀ k, k < L.length → ∃ b off, A = some ⟨b, off, none⟩ ∧ G b ∧ W.cell? ⟨b, off + k, none⟩ = some (.slice (AA k) (L.getD k []).length (cc k)))
    (hv : ∀ k, k < L.length → Rd I64 G W (AA k) (L.getD k [])) (hd : Den (g0 W G) (.intss L) (.slice A L.length cp)) (hl : L.length ≤ 1000000) (hll : ∀ l ∈ L, l.length ≤ 1000000000) (hsz : Cn.sizeL L ≤ 1000000000) :
    Calls Tryz.prog 29 #[.agg #[I64 N, .slice A L.length cp]] W fun e W' => ∃ v, e = .returned (.tuple #[v, I64 (Cn.chkV N L)]) ∧ Below W.heap.size W W' ∧
      Rep W' (fun b => G b ∨ (W.heap.size ≤ b ∧ b < W'.heap.size)) (.ls (.bytes (if Cn.chkV N L = 0 then Cn.putB N L else []))) v := by
  have hl1 : L.length ≤ maxLen := by unfold maxLen; omega
  have hl2 : ∀ l ∈ L, l.length ≤ maxLen := fun l h => by have := hll l h; unfold maxLen; omega
  have HCK := Lib.hid (fun (W' : World) (h : KRG G W W') => chk_x (G := G) (W := W') (N := N) (krg_lt hG h) (hgl.up (krg_le h)) hl1 hl2 (Den.mono (krg_le h) _ _ hd))
  have HGL := Lib.hid (fun (W' : World) (h : KRG G W W') => hgl.up (krg_le h))
  have HG := Lib.hid hG
  have HA := Lib.hid hA
  have HV := Lib.hid hv
  have HLL := Lib.hid hll
  have HSZ := Lib.hid hsz
  clear hgl hG hA hv hd hl1 hl2 hll hsz
  obtain ⟨s, hs⟩ : ∃ s, s = W.heap.size := ⟨_, rfl⟩
  have HS := Lib.hid hs
  clear hs
  go_enter Tryz.func29, Tryz.ntmps29
  go_wp2_with fail
  have hkA : KRG G W (W.alloc (.cells #[I64 N, .slice A L.length cp] 24)) := fun b hb => Below.heap_alloc W _ b (HG.out b hb)
  refine (HCK.out _ hkA).mono ?_
  rintro e w1 ⟨rfl, hb1⟩
  have hbox1 : w1.heap[W.heap.size]? = some (.cells #[I64 N, .slice A L.length cp] 24 (0, 0)) := (hb1.block _ (by simp)).trans (World.alloc_heap_new W _)
  have HK1 := Lib.hid (krg_below hkA (krg_lt HG.out hkA) hb1)
  have HB1 := Lib.hid (((Below.refl W.heap.size W).alloc (Nat.le_refl _) (.cells #[I64 N, .slice A L.length cp] 24)).trans ⟨hb1.os, hb1.tape, hb1.output, hb1.size, fun b hb => hb1.block b (by simp; omega)⟩)
  have HS1 := Lib.hid (show W.heap.size + 1 ≤ w1.heap.size by have := hb1.size; simpa using this)
  clear hb1 hkA
  have hb0 : w1.cell? ⟨W.heap.size, 0, none⟩ = some (I64 N) := by rw [Lib.cell_of_heap hbox1]; rfl
  have hb1 : w1.cell? ⟨W.heap.size, 1, none⟩ = some (.slice A L.length cp) := by rw [Lib.cell_of_heap hbox1]; rfl
  have HBX1 := Lib.hid hbox1
  clear hbox1
  by_cases hc : Cn.chkV N L = 0
  · rw [hc]
    have HC := Lib.hid (Cn.chk_lit hc)
    have HC0 := Lib.hid hc
    have HN1 := Lib.hid (show ∀ x ∈ [N], -65536 ≤ x ∧ x ≤ 65536 from fun x hx => by
      have hx : x = N := by simpa using hx
      have := HC.out
      omega)
    clear hc
    obtain ⟨B, hB⟩ : ∃ B, B = w1.heap.size := ⟨_, rfl⟩
    have hfb := fresh_bf w1
    have hfr0 : Below B w1 (w1.alloc (.cells #[.slice none 0 0, .int .i64 0, .int .i8 0] 75)) := (Below.refl _ _).alloc (by omega) _
    have hszf : (w1.alloc (.cells #[.slice none 0 0, .int .i64 0, .int .i8 0] 75)).heap.size = B + 1 := by rw [World.size_alloc, hB]
    rw [← hB] at hfb
    have HFB := Lib.hid hfb
    have HFR0 := Lib.hid hfr0
    have HSZF := Lib.hid hszf
    clear hfb hfr0 hszf
    have HBX := Lib.hid (fun (W' : World) (h : Below B w1 W') => (h.block W.heap.size (by have := HS1.out; omega)).trans HBX1.out)
    have HKB := Lib.hid (fun (W' : World) (h : Below B w1 W') => krg_below (n := B) HK1.out (fun b hb => by have := HG.out b hb; have := HS1.out; omega) h)
    go_wp2_with fail
    rw [← hB]
    refine (ws_x HFB.out (by rw [HSZF.out]; omega) lit_pcnf (by simp)).mono ?_
    rintro e w2 ⟨rfl, hb2, hf2⟩
    have HF2 := Lib.hid hf2
    have HW2 := Lib.hid (HFR0.out.trans hf2.1)
    have HB2 := Lib.hid hb2
    have HS2 := Lib.hid (show B + 1 ≤ w2.heap.size by have := hf2.1.size; have := HSZF.out; omega)
    have hbx2 := HBX.out w2 HW2.out
    have hb0' : w2.cell? ⟨W.heap.size, 0, none⟩ = some (I64 N) := by rw [Lib.cell_of_heap hbx2]; rfl
    have hb1' : w2.cell? ⟨W.heap.size, 1, none⟩ = some (.slice A L.length cp) := by rw [Lib.cell_of_heap hbx2]; rfl
    have hln : (L.length : Int) ≤ 9223372036854775807 := by omega
    have HNB := Lib.hid HC.out
    clear hb2 hf2 hb0 hb1 hbx2
    have HIT := Lib.hid (fun (W' : World) (h : Below B w1 W') => itoa_x (HGL.out W' (HKB.out W' h)) (n := (L.length : Int)) (by omega) hln)
    have HIL := Lib.hid (Cn.itoa_len (n := (L.length : Int)) (by omega) hln)
    have HP1 := Lib.hid (fun (X : World) (k0 : Nat) (h1 : Below B w1 X) (h2 : Bf B B [112, 32, 99, 110, 102, 32] X) (h3 : X.heap[k0]? = some (.cells #[I64 N] 3 (0, 0))) (h4 : B < k0) =>
      put1_x (G := G) (W := X) (B := B) (b := B) (fun W' hf => HGL.out W' (HKB.out W' (h1.trans hf.1))) (by have := h1.size; omega) [112, 32, 99, 110, 102, 32] [N] h2 (fun x hx => by
        have hx : x = N := by simpa using hx
        have := HC.out; omega) (some ⟨k0, 0, none⟩) 1 (fun W' hf j hj => ⟨k0, 0, rfl, by
          have hj : j = 0 := by have : j < 1 := hj
                                omega
          subst hj
          have := hf.2 k0 _ h3 (by simp; omega) (fun c fz e => by injection e with e1 e2; cases e2)
          rw [Lib.cell_of_heap this]; rfl⟩) (by unfold maxLen; simp) ⟨(Lib.itoa (L.length : Int)).toArray⟩ (Cn.itoaI (L.length : Int)) (itoa_cells _) (by have := HIL.out; simp; omega))
    have HAL := Lib.hid (fun o : Obj => (HW2.out.alloc (by have := HS2.out; omega) o : Below B w1 (w2.alloc o)))
    subst hB
    go_wp2_with fail
    go_region_held3 (fun w' => w'.cell? ⟨W.heap.size, 0, none⟩ = some (I64 N) ∧ w'.cell? ⟨W.heap.size, 1, none⟩ = some (.slice A L.length cp))
      (first | go_keep | (have hbx9 := HBX.out _ hbw9; exact ⟨by rw [Lib.cell_of_heap hbx9]; rfl, by rw [Lib.cell_of_heap hbx9]; rfl⟩))
      (first
        | (go_at_call 64; refine (HIT.out _ (HAL.out _).drew).mono ?_; rintro e w3 ⟨rfl, hb3⟩; have hbw9 := (HAL.out (.cells #[I64 N] 3)).drew.trans (⟨hb3.os, hb3.tape, hb3.output, hb3.size, fun b hb => hb3.block b (by have := HS2.out; simp; omega)⟩ : Below w1.heap.size _ _))
        | (go_at_call 64; refine (HIT.out _ HW2.out.drew).mono ?_; rintro e w3 ⟨rfl, hb3⟩; have hbw9 := HW2.out.drew.trans (⟨hb3.os, hb3.tape, hb3.output, hb3.size, fun b hb => hb3.block b (by have := HS2.out; simp; omega)⟩ : Below w1.heap.size _ _))
        | (go_at_call 62; refine (HP1.out w3 w2.heap.size hbw9 (Bf.old (W := (w2.alloc (.cells #[I64 N] 3)).drew) (Lib.IsBuffer.alloc HB2.out _) hb3) ((hb3.block w2.heap.size (by simp)).trans (World.alloc_heap_new w2 _)) (by have := HS2.out; omega)).mono ?_; rintro e w4 ⟨rfl, hb4, hf4⟩; have hbw9 := hbw9.trans hf4.1)
        | (go_at_call 62; refine (HP1.out _ w3.heap.size (hbw9.alloc (by have := hbw9.size; omega) (.cells #[I64 N] 3)) (Lib.IsBuffer.alloc (Bf.old (W := w2.drew) HB2.out hb3) _) (World.alloc_heap_new w3 _) (by have := HS2.out; have := hb3.size; simp at this; omega)).mono ?_; rintro e w4 ⟨rfl, hb4, hf4⟩; have hbw9 := (hbw9.alloc (by have := hbw9.size; omega) (.cells #[I64 N] 3)).trans hf4.1))
    all_goals
      have HB4 := Lib.hid hb4
      have HW4 := Lib.hid hbw9
      have HS4 := Lib.hid (show w1.heap.size ≤ w4.heap.size from hbw9.size)
      clear hb4 hbw9 hf4 hb3
      go_wp2_with fail
      refine (wb_x HB4.out HS4.out (by have := HIL.out; have := Cn.lits_len (l := [N]) HN1.out; simp only [List.length_append, List.length_cons, List.length_nil] at *; omega)).mono ?_
      rintro e w5 ⟨rfl, hb5, hf5⟩
      have HB5 := Lib.hid hb5
      have HW5 := Lib.hid (HW4.out.trans hf5.1)
      clear hb5 hf5
      have hbx5 := HBX.out w5 HW5.out
      have hb0'' : w5.cell? ⟨W.heap.size, 0, none⟩ = some (I64 N) := by rw [Lib.cell_of_heap hbx5]; rfl
      have hb1'' : w5.cell? ⟨W.heap.size, 1, none⟩ = some (.slice A L.length cp) := by rw [Lib.cell_of_heap hbx5]; rfl
      clear hbx5 hb0' hb1'
      have HLC := Lib.hid (fun k (hk : k ≤ L.length) => (by
        have h1 := Cn.cls_len (L := L.take k) (fun l hl x hx => by have := HC.out.2.2.2 l (List.mem_of_mem_take hl) x hx; have := HC.out; omega)
        have h2 := Cn.size_le (L := L) (k := k)
        have h3 := HSZ.out
        rw [List.length_take] at h1
        omega : (Cn.clsB (L.take k)).length ≤ 30000000000))
      have HPF := Lib.hid (show ([112, 32, 99, 110, 102, 32] ++ Cn.litsB [N] ++ Cn.itoaI (L.length : Int) ++ [10]).length ≤ 1000 by
        have := HIL.out
        have := Cn.lits_len (l := [N]) HN1.out
        simp only [List.length_append, List.length_cons, List.length_nil] at *
        omega)
      have HPE := Lib.hid (show Cn.putB N L = ([112, 32, 99, 110, 102, 32] ++ Cn.litsB [N] ++ Cn.itoaI (L.length : Int) ++ [10]) ++ Cn.clsB L from rfl)
      generalize ([112, 32, 99, 110, 102, 32] ++ Cn.litsB [N] ++ Cn.itoaI (L.length : Int) ++ [10]) = pre at HB5 HPF HPE
      go_wp2_with fail
      go_loopw [29] (fun iv wr => ∃ k : Nat, iv = .int .i64 k ∧ k ≤ L.length ∧ Below w1.heap.size w1 wr ∧ Bf w1.heap.size w1.heap.size (pre ++ Cn.clsB (L.take k)) wr) (fun iv _ => L.length - (intOf iv).toNat)
      case atStart => exact ⟨0, rfl, Nat.zero_le _, HW5.out, by rw [show Cn.clsB (L.take 0) = [] by simp [Cn.clsB], List.append_nil]; exact HB5.out⟩
      case round =>
        obtain ⟨k, rfl, hk, hbw, hbf⟩ := hrel
        have HBW := Lib.hid hbw
        have HBF := Lib.hid hbf
        have HSR := Lib.hid (show w1.heap.size ≤ wr.heap.size from hbw.size)
        clear hbw hbf
        by_cases hlt : k < L.length
        · obtain ⟨bk, off, rfl, hg, hcell⟩ := HA.out k hlt
          have hcell' : wr.cell? ⟨bk, off + k, none⟩ = some (.slice (AA k) (L.getD k []).length (cc k)) := (World.cell?_of_block (a := ⟨bk, off + k, none⟩) (HKB.out wr HBW.out bk hg)).trans hcell
          have hmem : L.getD k [] ∈ L := by simp [List.getD, List.getElem?_eq_getElem hlt]
          have HLK := Lib.hid (HLL.out _ hmem)
          have HP2 := Lib.hid (put1_x (G := G) (W := wr) (B := w1.heap.size) (b := w1.heap.size) (fun W' hf => HGL.out W' (HKB.out W' (HBW.out.trans hf.1))) HSR.out (pre ++ Cn.clsB (L.take k)) (L.getD k []) HBF.out (fun x hx => by have := HC.out.2.2.2 _ hmem x hx; have := HC.out; omega) (AA k) (cc k)
            (fun W' hf j hj => by
              obtain ⟨b2, o2, e2, hg2, hc2⟩ := HV.out k hlt (by omega)
              refine ⟨b2, o2, e2, ?_⟩
              have hkb := HKB.out W' (HBW.out.trans hf.1) b2 hg2
              rw [(World.cell?_of_block (a := ⟨b2, o2 + j, none⟩) hkb), hc2 j hj]
              generalize L.getD k [] = lk at hj
              rw [List.getD_eq_getElem?_getD, List.getElem?_eq_getElem hj]
              rfl) (by have := HLK.out; unfold maxLen; omega) ⟨#[48, 10]⟩ [48, 10] lit_0n (by have := HLK.out; have := HLC.out k hk; have := HPF.out; simp only [List.length_append, List.length_cons, List.length_nil]; omega))
          have HCT := Lib.hid (Cn.cls_take hlt)
          clear hcell hmem
          generalize L.getD k [] = lk at hcell' HLK HP2 HCT
          go_wp2_with fail
          refine HP2.out.mono ?_
          rintro e w6 ⟨rfl, hb6, hf6⟩
          have HB6 := Lib.hid hb6
          have HW6 := Lib.hid (HBW.out.trans hf6.1)
          clear hb6 hf6 hcell'
          go_wp2_with fail
          go_roundw
          case rel => exact ⟨k + 1, by go_num, hlt, HW6.out, by rw [HCT.out]; simpa only [List.append_assoc] using HB6.out⟩
          case measure => simp [intOf]; omega
        · obtain rfl : k = L.length := by omega
          have HBY := Lib.hid (Any.Buffer_Bytes Tryz.shBytes w1.heap.size w1.heap.size _ wr HBF.out)
          go_wp2_with fail
          refine HBY.out.mono ?_
          rintro e w7 ⟨v, rfl, hown, n, rfl⟩
          rw [List.take_length] at hown
          have HOW := Lib.hid hown
          clear hown
          go_wp2_with fail
          go_ret2
          refine ⟨v, rfl, HB1.out.trans ?_, ?_⟩
          · exact ⟨HBW.out.os, HBW.out.tape, HBW.out.output, HBW.out.size, fun b hb => HBW.out.block b (by have := HS1.out; omega)⟩
          · rw [HPE.out]
            exact rep_own HOW.out (by have := HS1.out; omega) (by have := HLC.out L.length (Nat.le_refl _); rw [List.take_length] at this; have := HPF.out; simp only [List.length_append]; unfold maxLen; omega)
  · have HC0 := Lib.hid hc
    go_wp2_with fail
    go_ret2
    refine ⟨_, rfl, HB1.out, ?_⟩
    exact .nil _ _ _ rfl
def sPut1 : CtF1
  | [.agg [.im (.val (.int .i64 N)), .im (.ls (.intss L))]] => some (L.length ≤ 1000000 ∧ (∀ l ∈ L, l.length ≤ 1000000000) ∧ Cn.sizeL L ≤ 1000000000, .tup [.im (.ls (.bytes (if Cn.chkV N L = 0 then Cn.putB N L else []))), .im (.val (.int .i64 (Cn.chkV N L)))])
  | _ => none
theorem sPut1_sound : Sound1G Tryz.prog 29 sPut1 := by
  refine ⟨run_enters Tryz.func29 (by kernel_rfl) rfl, fun W G args vs p r hG hgl hσ hp hd => ?_⟩
  unfold sPut1 at hσ
  split at hσ
  · rename_i N L
    injection hσ with hσ
    injection hσ with h1 h2
    subst h1 h2
    obtain ⟨hl, hll, hsz⟩ := hp
    simp only [DenL] at hd
    obtain ⟨v0, vs0, rfl, hd0, rfl⟩ := hd
    simp only [Den, DenL] at hd0
    obtain ⟨us, rfl, u1, us1, rfl, hu1, u2, us2, rfl, hr1, rfl⟩ := hd0
    have e1 : u1 = I64 N := den_val (g := g0 W G) (by simp only [Den]; exact hu1)
    subst e1
    have key : ∃ (A : Option Addr) (cp : Nat) (AA : Nat → Option Addr) (cc : Nat → Nat), u2 = .slice A L.length cp ∧ (∀ k, k < L.length → ∃ b off, A = some ⟨b, off, none⟩ ∧ G b ∧ W.cell? ⟨b, off + k, none⟩ = some (.slice (AA k) (L.getD k []).length (cc k))) ∧
        ∀ k, k < L.length → Rd I64 G W (AA k) (L.getD k []) := by
      rcases hr1.cases_ls with ⟨h0, A, cp, rfl⟩ | ⟨b, off, cp, z, rfl, _, _, hb, hcell, hrep⟩
      · have h0' : L.length = 0 := h0
        exact ⟨A, cp, fun _ => none, fun _ => 0, by rw [h0'], fun k hk => by omega, fun k hk => by omega⟩
      · have hz : ∀ k, ∃ Ac : Option Addr × Nat, k < L.length → z k 0 = .slice Ac.1 (L.getD k []).length Ac.2 ∧ Rd I64 G W Ac.1 (L.getD k []) := fun k => by
          by_cases hk : k < L.length
          · have h2 : Rep W G (.ls (.ints (L.getD k []))) (z k 0) := hrep k 0 hk Nat.one_pos
            obtain ⟨A, c, e, _, hrd⟩ := rd_of_ints h2
            exact ⟨(A, c), fun _ => ⟨e, hrd⟩⟩
          · exact ⟨(none, 0), fun h => absurd h hk⟩
        obtain ⟨Ac, hAc⟩ := Classical.axiomOfChoice hz
        refine ⟨_, cp, fun k => (Ac k).1, fun k => (Ac k).2, rfl, fun k hk => ⟨b, off, rfl, hb, ?_⟩, fun k hk => (hAc k hk).2⟩
        have h1 : W.cell? ⟨b, off + k * 1 + 0, none⟩ = some (z k 0) := hcell k 0 hk Nat.one_pos
        rw [Nat.mul_one, Nat.add_zero] at h1
        rw [h1, (hAc k hk).1]
    obtain ⟨A, cp, AA, cc, rfl, hA, hv⟩ := key
    refine Calls.mono (put_x hG hgl N L A cp AA cc hA hv (by simp only [Den]; exact hr1) hl hll hsz) fun e w' he => ?_
    obtain ⟨v, rfl, hb, hrep⟩ := he
    refine ⟨_, rfl, hb, ?_⟩
    simp only [Den, DenL]
    exact ⟨[v, I64 (Cn.chkV N L)], rfl, _, _, rfl, hrep, _, _, rfl, .val _, rfl⟩
  · cases hσ
def sPut : CtF := sPut1.up
theorem sPut_sound : Sound Tryz.prog 29 sPut := sPut1_sound.up
end Go.Proofs.YtiokflebeojokaaGreatDoor.En
