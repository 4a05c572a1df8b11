/- bytes.SplitSeq's iterator at a line feed: the lines of a text, in the text's own memory; the rest lies in a cell of the iterator's own. -/
import Derived.Test.YtiokflebeojokaaGreatDoorFieldsX
import Derived.Lib.IndexLaws
set_option linter.unusedSimpArgs false
set_option linter.unusedVariables false
set_option linter.unnecessarySimpa false
namespace Go.Proofs.YtiokflebeojokaaGreatDoor.En
open Go Go.RowKit

theorem byte_at {xs : List Int} (hb : Cn.isBytes xs) {k : Nat} (hk : k < xs.length) : (Lib.bytesOf xs)[k]? = some (10 : Int).toNat.toUInt8 ↔ xs.getD k 0 = 10 := by
  have hx := hb xs[k] (List.getElem_mem hk)
  simp only [Lib.bytesOf, List.getElem?_map, List.getD, List.getElem?_eq_getElem hk, Option.map_some, Option.some.injEq, Option.getD_some]
  constructor
  · intro h
    have h := congrArg UInt8.toNat h
    rw [UInt8.toNat_ofNat'] at h
    have h2 : ((10 : Int).toNat.toUInt8).toNat = 10 := rfl
    rw [h2] at h
    omega
  · intro h
    rw [h]
/-- where the first line feed lies -/
theorem ix_cases {xs : List Int} (hb : Cn.isBytes xs) : (Lib.indexByte (Lib.bytesOf xs) (10 : Int).toNat.toUInt8 = -1 ∧ ∀ j, j < xs.length → xs.getD j 0 ≠ 10) ∨
    ∃ m : Nat, Lib.indexByte (Lib.bytesOf xs) (10 : Int).toNat.toUInt8 = (m : Int) ∧ m < xs.length ∧ xs.getD m 0 = 10 ∧ ∀ j, j < m → xs.getD j 0 ≠ 10 := by
  have hl : (Lib.bytesOf xs).length = xs.length := by simp [Lib.bytesOf]
  by_cases h : Lib.indexByte (Lib.bytesOf xs) (10 : Int).toNat.toUInt8 = -1
  · exact .inl ⟨h, fun j hj e => Lib.indexByte_none h j ((byte_at hb hj).2 e)⟩
  · have := Lib.indexByte_ge (Lib.bytesOf xs) (10 : Int).toNat.toUInt8
    obtain ⟨m, hm⟩ : ∃ m : Nat, Lib.indexByte (Lib.bytesOf xs) (10 : Int).toNat.toUInt8 = (m : Int) := ⟨(Lib.indexByte (Lib.bytesOf xs) (10 : Int).toNat.toUInt8).toNat, by omega⟩
    obtain ⟨h1, h2⟩ := Lib.indexByte_some hm
    have hlt : m < xs.length := by rw [← hl]; exact (List.getElem?_eq_some_iff.1 h1).1
    exact .inr ⟨m, hm, hlt, (byte_at hb hlt).1 h1, fun j hj e => h2 j hj ((byte_at hb (by omega)).2 e)⟩
set_option maxRecDepth 100000 in
set_option maxHeartbeats 1000000 in
theorem ixb_x (A : Option Addr) (n c : Nat) (xs : List Int) (hx : xs.length = n) (cv : Int) (w : World) (hc : ∀ j, j < n → ∃ bk off, A = some ⟨bk, off, none⟩ ∧ w.cell? ⟨bk, off + j, none⟩ = some (.int .u8 (xs.getD j 0))) :
    Calls Tryz.prog 122 #[.slice A n c, .int .u8 cv] w fun e w' => e = .returned (.int .i64 (Lib.indexByte (Lib.bytesOf xs) cv.toNat.toUInt8)) ∧ w' = w := by
  rcases Nat.eq_zero_or_pos n with h0 | h0
  · subst h0
    have he : (Extern.BytealgIndexByte.indexByte #[.slice A 0 c, .int .u8 cv]).run Tryz.prog w = .ok (.int .i64 (-1)) w := by
      cases A with
      | none => exact Lib.run_indexByteNil w 0 c cv
      | some a => exact Lib.run_indexByteNil w 0 c cv
    have hv : Lib.indexByte (Lib.bytesOf xs) cv.toNat.toUInt8 = -1 := by
      rw [List.eq_nil_of_length_eq_zero hx]
      rfl
    rw [hv]
    go_enter Tryz.func122, Tryz.ntmps122
    go_wp2
    rw [run_callFunc_extern Tryz.func129 (by kernel_rfl) (by kernel_rfl) (by kernel_rfl) (e := Extern.BytealgIndexByte.indexByte) (by kernel_rfl), he]
    simp only [Result.andThen]
    rw [Oper.upon_value]
    go_wp2
    go_ret
    exact ⟨rfl, rfl⟩
  · obtain ⟨bk, off, rfl, _⟩ := hc 0 h0
    exact Any.bytes_IndexByte Tryz.shIndexByte bk off n c xs cv w hx fun i hi => by
      obtain ⟨bk', off', e, h⟩ := hc i hi
      cases e
      exact h
set_option maxRecDepth 100000 in
set_option maxHeartbeats 1000000 in
theorem ix_x (A : Option Addr) (c : Nat) (xs : List Int) (bq oq c2 : Nat) (w : World) (hq : w.cell? ⟨bq, oq, none⟩ = some (.int .u8 10)) (hc : ∀ j, j < xs.length → ∃ bk off, A = some ⟨bk, off, none⟩ ∧ w.cell? ⟨bk, off + j, none⟩ = some (.int .u8 (xs.getD j 0))) :
    CallsIn (FR none) 2 Tryz.prog 115 #[.slice A xs.length c, .slice (some ⟨bq, oq, none⟩) 1 c2] w fun e w' => e = .returned (.int .i64 (Lib.indexByte (Lib.bytesOf xs) (10 : Int).toNat.toUInt8)) ∧ w' = w := by
  refine callsIn_fr.2 ?_
  have HX := Lib.hid (ixb_x A xs.length c xs rfl 10 w hc)
  clear hc
  go_enter Tryz.func115, Tryz.ntmps115
  go_wp2_with fail
  refine HX.out.mono ?_
  rintro e w2 ⟨rfl, rfl⟩
  go_wp2_with fail
  go_ret
  exact ⟨rfl, rfl⟩
/-- how much is left in the iterator's cell -/
def leftN (bs : Nat) (w : World) : Nat := match w.cell? ⟨bs, 0, none⟩ with | some (.slice _ n _) => n | _ => 0
theorem heap_set_box {W : World} {B : Nat} {v : Value} {t : TypeId} (v' : Value) (h : W.heap[B]? = some (.cells #[v] t (0, 0))) : (W.setCell ⟨B, 0, none⟩ v').heap[B]? = some (.cells #[v'] t (0, 0)) := by
  have hlt : B < W.heap.size := (Array.getElem?_eq_some_iff.1 h).1
  simp only [World.setCell]
  rw [Array.getElem?_modify, if_pos rfl, h]
  rfl
theorem leftN_box {W : World} {B n c : Nat} {A : Option Addr} {t : TypeId} (h : W.heap[B]? = some (.cells #[.slice A n c] t (0, 0))) : leftN B W = n := by
  have hc : W.cell? ⟨B, 0, none⟩ = some (.slice A n c) := by rw [Lib.cell_of_heap h]; rfl
  unfold leftN
  rw [hc]
/-- a piece of the memory at b, off, wherever an empty one points -/
def pcR (bk off : Nat) (q : Nat × Nat) (v : Value) : Prop := ∃ (A : Option Addr) (n c : Nat), v = .slice A n c ∧ n = q.2 - q.1 ∧ n ≤ c ∧ (0 < n → A = some ⟨bk, off + q.1, none⟩)
set_option maxRecDepth 100000 in
set_option maxHeartbeats 1000000 in
theorem split_x {G : Nat → Prop} {W : World} (hG : ∀ b, G b → b < W.heap.size) (xs : List Int) (hb : Cn.isBytes xs) (A : Option Addr) (bk off cp p1 bs p3 bq oq c2 : Nat)
    (h1 : W.cell? ⟨p1, 0, none⟩ = some (.slice (some ⟨bq, oq, none⟩) 1 c2)) (g1 : G p1) (hq : W.cell? ⟨bq, oq, none⟩ = some (.int .u8 10)) (gq : G bq) (h3 : W.cell? ⟨p3, 0, none⟩ = some (I64 0)) (g3 : G p3)
    (hbs : W.heap[bs]? = some (.cells #[.slice A xs.length cp] 41 (0, 0))) (gs : ¬ G bs)
    (hA : ∀ j, j < xs.length → A = some ⟨bk, off, none⟩ ∧ G bk ∧ W.cell? ⟨bk, off + j, none⟩ = some (.int .u8 (xs.getD j 0))) (hl : xs.length ≤ cp) (hm : xs.length ≤ maxLen) :
    SeqXS Tryz.prog 114 #[.pointer (some ⟨p1, 0, none⟩), .pointer (some ⟨bs, 0, none⟩), .pointer (some ⟨p3, 0, none⟩)] (KRG G) (· = bs) (Cn.lnE xs).length (fun j v => ∃ u, v = #[u] ∧ pcR bk off ((Cn.lnE xs).getD j (0, 0)) u) W := by
  intro l J Jx Z W1 hKR hS hJs hJxs hY h0
  unfold maxLen at hm
  have HC1 := Lib.hid (fun (W' : World) (h : KRG G W W') => (World.cell?_of_block (a := ⟨p1, 0, none⟩) (h p1 g1)).trans h1)
  have HCQ := Lib.hid (fun (W' : World) (h : KRG G W W') => (World.cell?_of_block (a := ⟨bq, oq, none⟩) (h bq gq)).trans hq)
  have HC3 := Lib.hid (fun (W' : World) (h : KRG G W W') => (World.cell?_of_block (a := ⟨p3, 0, none⟩) (h p3 g3)).trans h3)
  have HA := Lib.hid (fun p (A' : Option Addr) (hA' : p < xs.length → A' = some ⟨bk, off + p, none⟩) (W' : World) (h : KRG G W W') j (hj : j < (xs.drop p).length) => (by
    rw [List.length_drop] at hj
    obtain ⟨_, hg, hc⟩ := hA (p + j) (by omega)
    refine ⟨bk, off + p, hA' (by omega), ?_⟩
    rw [show off + p + j = off + (p + j) by omega, (World.cell?_of_block (a := ⟨bk, off + (p + j), none⟩) (h bk hg)), hc]
    simp [List.getD, List.getElem?_drop] : ∃ bk' off', A' = some ⟨bk', off', none⟩ ∧ W'.cell? ⟨bk', off' + j, none⟩ = some (.int .u8 ((xs.drop p).getD j 0))))
  have HIX := Lib.hid (fun p => ix_cases (xs := xs.drop p) (fun x hx => hb x (List.mem_of_mem_drop hx)))
  have HGD := Lib.hid (fun p j => show (xs.drop p).getD j 0 = xs.getD (p + j) 0 by simp [List.getD, List.getElem?_drop])
  have HJ := Lib.hid hJs
  have HY := Lib.hid hY
  have HG := Lib.hid hG
  have HGS := Lib.hid gs
  have HK := Lib.hid hKR
  have H0 := Lib.hid h0
  have HB0 := Lib.hid ((hS bs rfl).2.trans hbs)
  have HZ0 := Lib.hid (hS bs rfl).1
  have HA0 := Lib.hid (fun h : 0 < xs.length => (hA 0 h).1)
  clear h1 hA hJs hY hG hJxs h0 hKR hq h3 hbs hS gs hb
  refine callsIn_fr.1 (callsIn_of_wp (F := FR none) (n := 3) Tryz.func114 rfl trivial ?_ rfl)
  simp only [Tryz.ntmps114, List.size_toArray, List.length_cons, List.length_nil, Nat.reduceAdd, Nat.reduceSub, Array.replicate_succ, Array.replicate_zero, List.push_toArray, List.append_toArray, List.nil_append, List.cons_append]
  have hro : (FR none).round = none := rfl
  have hc1 := HC1.out W1 HK.out
  gi_wp2_with fail
  clear hc1
  gi_loopw [] (fun wr => ∃ (p : Nat) (Z : Nat → Prop) (A' : Option Addr) (c' : Nat), p ≤ xs.length ∧ (Cn.lnS xs p).1 = p ∧ wr.heap[bs]? = some (.cells #[.slice A' (xs.length - p) c'] 41 (0, 0)) ∧ xs.length - p ≤ c' ∧ (p < xs.length → A' = some ⟨bk, off + p, none⟩) ∧ Z bs ∧ KRG G W wr ∧ J (Cn.lnS xs p).2.length Z wr) (fun wr => leftN bs wr)
  case atStart => exact ⟨0, Z, A, cp, Nat.zero_le _, rfl, HB0.out, hl, HA0.out, HZ0.out, HK.out, H0.out⟩
  case round =>
    obtain ⟨p, Z2, A', c', hp, hpp, hbx, hc', hA', hz, hkr, hj⟩ := hrel
    have HKR := Lib.hid hkr
    have HJ2 := Lib.hid hj
    have HBX := Lib.hid hbx
    have HPP := Lib.hid hpp
    have HAP := Lib.hid hA'
    have hc1 := HC1.out wr HKR.out
    have hcq := HCQ.out wr HKR.out
    have hc3 := HC3.out wr HKR.out
    have hcb : wr.cell? ⟨bs, 0, none⟩ = some (.slice A' (xs.length - p) c') := by rw [Lib.cell_of_heap hbx]; rfl
    have HI := Lib.hid (ix_x A' c' (xs.drop p) bq oq c2 wr hcq (HA.out p A' hA' wr hkr))
    clear hkr hj hbx hpp hcq
    have HIC := Lib.hid (HIX.out p)
    generalize Lib.indexByte (Lib.bytesOf (xs.drop p)) (10 : Int).toNat.toUInt8 = ix at HI HIC
    rw [List.length_drop] at HI
    gi_wp2_with fail
    refine ⟨trivial, HI.out.mono ?_⟩
    rintro e w2 ⟨rfl, rfl⟩
    rcases HIC.out with ⟨hix, hno⟩ | ⟨m, hix, hmlt, hm10, hmno⟩
    · subst hix
      have HMS := Lib.hid (Cn.ln_miss (xs := xs) (i := p) hp (fun j h1 h2 => by
        have := hno (j - p) (by rw [List.length_drop]; omega)
        rw [HGD.out, show p + (j - p) = j by omega] at this
        exact this) HPP.out)
      obtain ⟨hlt2, hat, hend⟩ := HMS.out
      have hyy := HY.out _ Z2 w2 #[.slice A' (xs.length - p) (xs.length - p)] hlt2 HJ2.out ⟨_, rfl, A', _, _, rfl, by rw [hat], Nat.le_refl _, fun h => by rw [hat]; exact HAP.out (by omega)⟩
      obtain ⟨fn, tmps, assign, body, hy, hR⟩ := hyy
      have HEND := Lib.hid hend
      clear hlt2 hat hend hno hA' HMS
      gi_wp2_with fail
      refine hR.mono ?_
      rintro e w4 ⟨⟨rfl, hj4⟩ | ⟨rfl, hjx⟩, hk4, hz4, hs4⟩
      · have HJ5 := Lib.hid hj4
        clear hj4 hk4 hz4 hs4
        gi_wp2_with fail
        go_end0
        exact ⟨⟨_, rfl⟩, .inl ⟨_, by rw [← HEND.out]; exact HJ5.out⟩⟩
      · have HJX := Lib.hid hjx
        clear hjx hk4 hz4 hs4
        gi_wp2_with fail
        go_end0
        exact ⟨⟨_, rfl⟩, .inr ⟨_, _, HJX.out⟩⟩
    · subst hix
      rw [List.length_drop] at hmlt
      have HHT := Lib.hid (Cn.ln_hit (xs := xs) (i := p) (m := m) (by omega) (fun j h1 h2 => by
        have := hmno (j - p) (by omega)
        rw [HGD.out, show p + (j - p) = j by omega] at this
        exact this) (by rw [HGD.out] at hm10; exact hm10) HPP.out)
      obtain ⟨hp1, hlen, hlt2, hat⟩ := HHT.out
      obtain rfl := HAP.out (by omega)
      have hyy := HY.out _ Z2 w2 #[.slice (some ⟨bk, off + p, none⟩) m m] hlt2 HJ2.out ⟨_, rfl, _, _, _, rfl, by rw [hat]; show m = p + m - p; omega, Nat.le_refl _, fun h => by rw [hat]⟩
      obtain ⟨fn, tmps, assign, body, hy, hR⟩ := hyy
      have HP1 := Lib.hid hp1
      have HLN := Lib.hid hlen
      have hzz := HZ0
      clear hp1 hlen hlt2 hat hm10 hmno HHT hA'
      have hmc : m ≤ c' := by omega
      gi_wp2_with fail
      refine hR.mono ?_
      rintro e w4 ⟨⟨rfl, hj4⟩ | ⟨rfl, hjx⟩, hk4, hz4, hs4⟩
      · have HK4 := Lib.hid (krg_tr HKR.out hk4)
        have HJ5 := Lib.hid hj4
        have hb4 := (hz4 bs hz).trans HBX.out
        have hcb4 : w4.cell? ⟨bs, 0, none⟩ = some (.slice (some ⟨bk, off + p, none⟩) (xs.length - p) c') := by rw [Lib.cell_of_heap hb4]; rfl
        have hfz4 : w4.frozen? ⟨bs, 0, none⟩ = false := by simp [World.frozen?, hb4]
        have hc14 := HC1.out w4 HK4.out
        have HB4 := Lib.hid hb4
        clear hj4 hk4 hz4 hs4 hcb hc1 hc3 hb4
        have HFIN := Lib.hid (fun (A'' : Option Addr) (c'' : Nat) (h1 : xs.length - p - (m + 1) ≤ c'') (h2 : p + m + 1 < xs.length → A'' = some ⟨bk, off + (p + m + 1), none⟩) => by
          have hkp : Kp Z2 w4 (w4.setCell ⟨bs, 0, none⟩ (.slice A'' (xs.length - p - (m + 1)) c'')) := (Kp.refl _ _).setCell (fun _ => hz) _
          have hkb : Kp (· = bs) w4 (w4.setCell ⟨bs, 0, none⟩ (.slice A'' (xs.length - p - (m + 1)) c'')) := Kp.setCell (M := (· = bs)) (w := w4) (w' := w4) (Kp.refl _ _) (p := ⟨bs, 0, none⟩) (fun _ => (rfl : bs = bs)) _
          have hnb := heap_set_box (.slice A'' (xs.length - p - (m + 1)) c'') HB4.out
          have hj6 := HJ.out _ _ _ _ HJ5.out hkp
          have hz6 : grew Z2 w4 (w4.setCell ⟨bs, 0, none⟩ (.slice A'' (xs.length - p - (m + 1)) c'')) bs := .inl hz
          exact (⟨⟨p + m + 1, _, A'', c'', by omega, HP1.out, by rw [show xs.length - (p + m + 1) = xs.length - p - (m + 1) by omega]; exact hnb, by omega, h2, hz6, fun b hb => (hkb.block b (krg_lt HG.out HK4.out b hb) (fun h => HGS.out (h ▸ hb))).trans (HK4.out b hb), by rw [HLN.out]; exact hj6⟩, by rw [leftN_box hnb, leftN_box HBX.out]; omega⟩ :
            (∃ (p' : Nat) (Z : Nat → Prop) (A' : Option Addr) (c' : Nat), p' ≤ xs.length ∧ (Cn.lnS xs p').1 = p' ∧ (w4.setCell ⟨bs, 0, none⟩ (.slice A'' (xs.length - p - (m + 1)) c'')).heap[bs]? = some (.cells #[.slice A' (xs.length - p') c'] 41 (0, 0)) ∧ xs.length - p' ≤ c' ∧ (p' < xs.length → A' = some ⟨bk, off + p', none⟩) ∧ Z bs ∧ KRG G W (w4.setCell ⟨bs, 0, none⟩ (.slice A'' (xs.length - p - (m + 1)) c'')) ∧ J (Cn.lnS xs p').2.length Z (w4.setCell ⟨bs, 0, none⟩ (.slice A'' (xs.length - p - (m + 1)) c''))) ∧
            leftN bs (w4.setCell ⟨bs, 0, none⟩ (.slice A'' (xs.length - p - (m + 1)) c'')) < leftN bs w2))
        by_cases hcm : c' = m + 1
        · gi_wp2_with fail
          exact HFIN.out _ _ (by omega) (fun h => by omega)
        · gi_wp2_with fail
          exact HFIN.out _ _ (by omega) (fun h => by rw [show off + p + (m + 1) = off + (p + m + 1) by omega])
      · have HJX := Lib.hid hjx
        clear hjx hk4 hz4 hs4
        gi_wp2_with fail
        refine bodyPost_ret (results_none rfl _ _ _) rfl ?_
        exact ⟨⟨_, rfl⟩, .inr ⟨_, _, HJX.out⟩⟩
end Go.Proofs.YtiokflebeojokaaGreatDoor.En
