/- bytes.FieldsFuncSeq's iterator at cnf.words' separators: the fields of a line, in the line's own memory. -/
import Derived.Test.YtiokflebeojokaaGreatDoorDecX
import Derived.Test.YtiokflebeojokaaGreatDoorEngX
import Derived.Shelf.SlIter.Collect
set_option linter.unusedSimpArgs false
set_option linter.unusedVariables false
set_option linter.unnecessarySimpa false
namespace Go.Proofs.YtiokflebeojokaaGreatDoor.En
open Go Go.RowKit

/-- a piece of the memory at b, off -/
def pcV (b off : Nat) (q : Nat × Nat) : Value := .slice (some ⟨b, off + q.1, none⟩) (q.2 - q.1) (q.2 - q.1)
set_option maxRecDepth 100000 in
set_option maxHeartbeats 1000000 in
theorem fields_x {G : Nat → Prop} {W : World} (hG : ∀ b, G b → b < W.heap.size) (hgl : GlOk (g0 W G)) (xs : List Int) (hb : Cn.isBytes xs) (A : Option Addr) (bk off cp p1 o1 p2 o2 : Nat)
    (h1 : W.cell? ⟨p1, o1, none⟩ = some (.slice A xs.length cp)) (g1 : G p1) (h2 : W.cell? ⟨p2, o2, none⟩ = some (.func (.func 85) #[] #[])) (g2 : G p2)
    (hA : ∀ j, j < xs.length → A = some ⟨bk, off, none⟩ ∧ G bk ∧ W.cell? ⟨bk, off + j, none⟩ = some (.int .u8 (xs.getD j 0))) (hl : xs.length ≤ cp) (hm : xs.length ≤ maxLen) :
    SeqX Tryz.prog 102 #[.pointer (some ⟨p1, o1, none⟩), .pointer (some ⟨p2, o2, none⟩)] (KRG G) (Cn.fldE xs).length (fun j => #[pcV bk off ((Cn.fldE xs).getD j (0, 0))]) W := by
  intro l J Jx Z W1 hKR hJs hJxs hY h0
  unfold maxLen at hm
  have HC1 := Lib.hid (fun (W' : World) (h : KRG G W W') => (World.cell?_of_block (a := ⟨p1, o1, none⟩) (h p1 g1)).trans h1)
  have HC2 := Lib.hid (fun (W' : World) (h : KRG G W W') => (World.cell?_of_block (a := ⟨p2, o2, none⟩) (h p2 g2)).trans h2)
  have HA := Lib.hid (fun j (hj : j < xs.length) => (hA j hj).1)
  have HD := Lib.hid (fun i (hi : i < xs.length) (W' : World) (h : KRG G W W') => by
    have hlen : (xs.drop i).length = xs.length - i := List.length_drop
    have := dec_x (G := G) (W := W') (hgl.up (krg_le h)) (xs := xs.drop i) (fun x hx => hb x (List.mem_of_mem_drop hx)) (by omega) bk (off + i) (cp - i) (fun j hj => by
      obtain ⟨_, hg, hc⟩ := hA (i + j) (by omega)
      rw [show off + i + j = off + (i + j) by omega, (World.cell?_of_block (a := ⟨bk, off + (i + j), none⟩) (h bk hg)), hc]
      simp [List.getD, List.getElem?_drop])
    rw [hlen] at this
    exact this)
  have HDF := Lib.hid (fun i (hi : i < xs.length) => by
    have := Cn.dec_ok (xs := xs.drop i) (fun x hx => hb x (List.mem_of_mem_drop hx)) (by rw [List.length_drop]; omega)
    have hg : ∀ j, (xs.drop i).getD j 0 = xs.getD (i + j) 0 := fun j => by simp [List.getD, List.getElem?_drop]
    simp only [hg, List.length_drop, Nat.add_zero] at this
    exact this)
  have HJ := Lib.hid hJs
  have HY := Lib.hid hY
  have HG := Lib.hid hG
  have HK := Lib.hid hKR
  have H0 := Lib.hid h0
  clear h1 h2 hA hgl hJs hY hG hJxs h0 hKR
  refine callsIn_fr.1 (callsIn_of_wp (F := FR none) (n := 3) Tryz.func102 rfl trivial ?_ rfl)
  simp only [Tryz.ntmps102, List.size_toArray, List.length_cons, List.length_nil, Nat.reduceAdd, Nat.reduceSub, Array.replicate_succ, Array.replicate_zero, List.push_toArray, List.append_toArray, List.nil_append, List.cons_append]
  have hro : (FR none).round = none := rfl
  gi_wp2_with fail
  gi_loopw [4, 5] (fun sv iv wr => ∃ (i : Nat) (Z : Nat → Prop), sv = .int .i64 (Cn.fldS xs i).1 ∧ iv = .int .i64 i ∧ i ≤ xs.length ∧ KRG G W wr ∧ J (Cn.fldS xs i).2.length Z wr) (fun _ iv _ => xs.length - (intOf iv).toNat)
  case atStart => exact ⟨0, Z, rfl, rfl, Nat.zero_le _, HK.out, H0.out⟩
  case round =>
    obtain ⟨i, Z2, rfl, rfl, hi, hkr, hj⟩ := hrel
    have HKR := Lib.hid hkr
    have HJ2 := Lib.hid hj
    clear hkr hj
    have hc1 := HC1.out wr HKR.out
    have hc2 := HC2.out wr HKR.out
    have hst := (Cn.fld_st xs i).1
    by_cases hlt : i < xs.length
    · obtain rfl := HA.out i hlt
      have HDC := Lib.hid (HD.out i hlt wr HKR.out)
      obtain ⟨hz1, hz2, hsr, hs1, hsk, _⟩ := HDF.out i hlt
      have HSE := Lib.hid (show Cn.sepB ((Cn.decN (xs.drop i)).1 : Int) = Cn.sepB (xs.getD i 0) from hsr)
      have HS1 := Lib.hid hs1
      have HSK := Lib.hid hsk
      clear hsr hs1 hsk
      generalize (Cn.decN (xs.drop i)).1 = r at HDC HSE
      generalize (Cn.decN (xs.drop i)).2 = z at HDC hz1 hz2 HS1 HSK
      gi_wp2_with fail
      refine ⟨trivial, HDC.out.mono ?_⟩
      rintro e w2 ⟨rfl, hb2⟩
      have HK2 := Lib.hid (krg_below HKR.out (krg_lt HG.out HKR.out) hb2)
      have HJ3 := Lib.hid (HJ.out _ _ _ _ HJ2.out (kp_no hb2 Z2))
      have hc3 := HC1.out w2 HK2.out
      have hc4 := HC2.out w2 HK2.out
      clear hb2 hc1 hc2
      gi_wp2_with fail
      refine ⟨trivial, (sep_x r w2).mono ?_⟩
      rintro e w3 ⟨rfl, rfl⟩
      rw [HSE.out]
      cases hsp : Cn.sepB (xs.getD i 0) with
      | true =>
        have HSP := Lib.hid hsp
        have hz : z = 1 := HS1.out hsp
        subst hz
        clear hsp
        rcases hst with hst | hst
        · have HID := Lib.hid (Cn.fld_idle HSP.out (by omega : (Cn.fldS xs i).1 < 0))
          rw [hst]
          gi_wp2_with fail
          go_roundw
          case rel => exact ⟨i + 1, _, by rw [HID.out, hst], by go_num, hlt, HK2.out, by rw [HID.out]; exact HJ3.out⟩
          case measure => simp [intOf]; omega
        · obtain ⟨s, hs⟩ : ∃ s : Nat, (Cn.fldS xs i).1 = (s : Int) := ⟨(Cn.fldS xs i).1.toNat, by omega⟩
          have hsi : s < i := by omega
          have HCL := Lib.hid (Cn.fld_close HSP.out (by omega : 0 ≤ (Cn.fldS xs i).1))
          obtain ⟨hlt2, hat⟩ := Cn.fld_at hlt HSP.out (by omega : 0 ≤ (Cn.fldS xs i).1)
          have hyy := HY.out _ _ w3 hlt2 HJ3.out
          rw [hat, hs, Int.toNat_natCast] at hyy
          unfold pcV at hyy
          obtain ⟨fn, tmps, assign, body, hy, hR⟩ := hyy
          have HLEN := Lib.hid (show (Cn.fldS xs (i + 1)).2.length = (Cn.fldS xs i).2.length + 1 by rw [HCL.out]; simp)
          have HM1 := Lib.hid (show (Cn.fldS xs (i + 1)).1 = -1 by rw [HCL.out])
          rw [hs]
          have HSS := Lib.hid hs
          clear hlt2 hat hst hs
          gi_wp2_with fail
          refine hR.mono ?_
          rintro e w4 ⟨⟨rfl, hj4⟩ | ⟨rfl, hjx⟩, hk4, hz4, hs4⟩
          · have HK4 := Lib.hid (krg_tr HK2.out hk4)
            have HJ5 := Lib.hid hj4
            clear hj4 hk4 hz4 hs4
            gi_wp2_with fail
            go_roundw
            case rel => exact ⟨i + 1, _, by rw [HM1.out], by go_num, hlt, HK4.out, by rw [HLEN.out]; exact HJ5.out⟩
            case measure => simp [intOf]; omega
          · have HJX := Lib.hid hjx
            clear hjx hk4 hz4 hs4
            gi_wp2_with fail
            refine bodyPost_ret (results_none rfl _ _ _) rfl ?_
            exact ⟨⟨_, rfl⟩, .inr ⟨_, _, HJX.out⟩⟩
      | false =>
        have HSP := Lib.hid hsp
        clear hsp
        have HSKP := Lib.hid (Cn.fld_skip (xs := xs) (i := i) (m := z) (by omega) (fun j h1 h2 => by
          rcases (by omega : j = i ∨ i < j) with rfl | h
          · exact HSP.out
          · have := HSK.out (j - i) (by omega) (by omega)
            rwa [show i + (j - i) = j by omega] at this))
        rcases hst with hst | hst
        · rw [hst]
          gi_wp2_with fail
          go_roundw
          case rel => exact ⟨i + z, _, by rw [HSKP.out, if_pos (by omega)], by go_num, by omega, HK2.out, by rw [HSKP.out, if_pos (by omega)]; exact HJ3.out⟩
          case measure => simp [intOf]; omega
        · obtain ⟨s, hs⟩ : ∃ s : Nat, (Cn.fldS xs i).1 = (s : Int) := ⟨(Cn.fldS xs i).1.toNat, by omega⟩
          have HSS := Lib.hid hs
          rw [hs]
          clear hst hs
          gi_wp2_with fail
          go_roundw
          case rel => exact ⟨i + z, _, by rw [HSKP.out, if_neg (by have := HSS.out; omega), HSS.out], by go_num, by omega, HK2.out, by rw [HSKP.out, if_neg (by have := HSS.out; omega)]; exact HJ3.out⟩
          case measure => simp [intOf]; omega
    · obtain rfl : i = xs.length := by omega
      rcases hst with hst | hst
      · have HN := Lib.hid (Cn.fld_none (xs := xs) (by omega))
        rw [hst]
        gi_wp2_with fail
        go_end0
        exact ⟨⟨_, rfl⟩, .inl ⟨Z2, by rw [← HN.out]; exact HJ2.out⟩⟩
      · obtain ⟨s, hs⟩ : ∃ s : Nat, (Cn.fldS xs xs.length).1 = (s : Int) := ⟨(Cn.fldS xs xs.length).1.toNat, by omega⟩
        have hsi : s < xs.length := by omega
        obtain ⟨hlt2, hat, hend⟩ := Cn.fld_last (xs := xs) (by omega)
        obtain rfl := HA.out s hsi
        have hyy := HY.out _ _ wr hlt2 HJ2.out
        rw [hat, hs, Int.toNat_natCast] at hyy
        unfold pcV at hyy
        obtain ⟨fn, tmps, assign, body, hy, hR⟩ := hyy
        have HEND := Lib.hid hend
        rw [hs]
        clear hlt2 hat hst hs hend
        gi_wp2_with fail
        refine hR.mono ?_
        rintro e w4 ⟨⟨rfl, hj4⟩ | ⟨rfl, hjx⟩, hk4, hz4, hs4⟩
        · have HJ5 := Lib.hid hj4
          clear hj4 hk4 hz4 hs4
          gi_wp2_with fail
          go_end0
          exact ⟨⟨_, rfl⟩, .inl ⟨_, by rw [← HEND.out]; exact HJ5.out⟩⟩
        · have HJX := Lib.hid hjx
          clear hjx hk4 hz4 hs4
          gi_wp2_with fail
          go_end0
          exact ⟨⟨_, rfl⟩, .inr ⟨_, _, HJX.out⟩⟩
end Go.Proofs.YtiokflebeojokaaGreatDoor.En
