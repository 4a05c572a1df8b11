/- AdderOrder's walk: at every input the law's Go text returns true, and writes nothing that was there. -/
import Derived.Test.YtogolfneckhnaaaDoorAdSumC
namespace Go.Proofs.YtogolfneckhnaaaDoor
open Go.RowKit Go.Shelf

def revV (l : List Int) (k : Nat) : List Value := (l.reverse.take k).map I64
theorem revV_snoc (l : List Int) (k m : Nat) (h : m + 1 + k = l.length) : revV l (k + 1) = revV l k ++ [I64 (l[m]'(by omega))] := by
  unfold revV
  rw [List.take_succ_eq_append_getElem (by rw [List.length_reverse]; omega), List.map_append, List.getElem_reverse]
  simp only [List.map_cons, List.map_nil]
  congr 3
  have : l.length - 1 - k = m := by omega
  simp only [this]
theorem revV_len (l : List Int) (k : Nat) (h : k ≤ l.length) : (revV l k).length = k := by simp [revV]; omega
/-- the loop's relation -/
def OrRel (w : World) (coef l : List Int) (bv tv iv : Value) (wr : World) : Prop :=
  ∃ (k : Nat) (i : Int), iv = .int .i64 i ∧ i + 1 + k = l.length ∧ -1 ≤ i ∧ Own wr 3 bv (revV coef k) ∧ Own wr 3 tv (revV l k) ∧ (∀ g, bv.ownBlock = some g → w.heap.size ≤ g ∧ tv.ownBlock ≠ some g) ∧ (∀ g, tv.ownBlock = some g → w.heap.size ≤ g) ∧ Below w.heap.size w wr
/-- one of two slices of the call's own has grown -/
theorem two_push {w wr w5 : World} {o : Obj} {bv tv : Value} {g2 o2 n cp2 : Nat} {ts : List Value} (hg : ∀ g, bv.ownBlock = some g → w.heap.size ≤ g ∧ tv.ownBlock ≠ some g) (ht : Own wr 3 tv ts) (hb : Below w.heap.size w wr)
    (hg5 : (wr.alloc o).grownBy w5 bv.ownBlock) (hat : bv.ownBlock = some g2 ∨ g2 = wr.heap.size + 1) :
    (∀ g, (Value.slice (some ⟨g2, o2, none⟩) n cp2).ownBlock = some g → w.heap.size ≤ g ∧ tv.ownBlock ≠ some g) ∧ Own w5 3 tv ts ∧ Below w.heap.size w w5 := by
  refine ⟨fun g e => ?_, (ht.alloc o).grown hg5 ?_, ?_⟩
  · have e : g2 = g := by simpa [Value.ownBlock] using e
    subst e
    rcases hat with e | e
    · exact hg _ e
    · refine ⟨by have := hb.size; omega, fun e2 => ?_⟩
      have := ht.lt e2
      omega
  · rcases hx : tv.ownBlock with _ | g
    · exact .inl rfl
    · right
      intro e2
      exact (hg g e2.symm).2 hx
  · exact (hb.alloc hb.size o).grown hg5 (Nat.le_trans hb.size (by simp)) (fun g e => (hg g e).1)

/-- the second of the two has grown -/
theorem two_push' {w wr w5 : World} {o : Obj} {bv tv : Value} {g2 o2 n cp2 : Nat} {bs : List Value} (hgt : ∀ g, tv.ownBlock = some g → w.heap.size ≤ g) (hg : ∀ g, bv.ownBlock = some g → w.heap.size ≤ g ∧ tv.ownBlock ≠ some g) (ht : Own wr 3 bv bs) (hb : Below w.heap.size w wr)
    (hg5 : (wr.alloc o).grownBy w5 tv.ownBlock) (hat : tv.ownBlock = some g2 ∨ g2 = wr.heap.size + 1) :
    ((∀ g, bv.ownBlock = some g → w.heap.size ≤ g ∧ (Value.slice (some ⟨g2, o2, none⟩) n cp2).ownBlock ≠ some g) ∧ ∀ g, (Value.slice (some ⟨g2, o2, none⟩) n cp2).ownBlock = some g → w.heap.size ≤ g) ∧ Own w5 3 bv bs ∧ Below w.heap.size w w5 := by
  refine ⟨⟨fun g e => ⟨(hg g e).1, fun e2 => ?_⟩, fun g e => ?_⟩, (ht.alloc o).grown hg5 ?_, ?_⟩
  · have e2 : g2 = g := by simpa [Value.ownBlock] using e2
    subst e2
    rcases hat with h | h
    · exact (hg _ e).2 h
    · have := ht.lt e
      omega
  · have e : g2 = g := by simpa [Value.ownBlock] using e
    subst e
    rcases hat with h | h
    · exact hgt _ h
    · have := hb.size; omega
  · rcases hx : bv.ownBlock with _ | g
    · exact .inl rfl
    · right
      intro e2
      exact (hg g hx).2 e2.symm
  · exact (hb.alloc hb.size o).grown hg5 (Nat.le_trans hb.size (by simp)) (fun g e => hgt g e)

set_option maxRecDepth 100000 in
set_option maxHeartbeats 6400000 in
theorem order_any (A L : Option Addr) (cA cL : Nat) (coef l : List Int) (next pick : Int) (w : World) (ha : Rd I64 (· < w.heap.size) w A coef) (hl : Rd I64 (· < w.heap.size) w L l) (hT : TabAt w) (hla : coef.length ≤ maxLen) (_hll : l.length ≤ maxLen) :
    Calls Tryd.prog 8 #[.slice A coef.length cA, .slice L l.length cL, I64 next, I64 pick] w fun e w' => e = .returned (.bool true) ∧ Below w.heap.size w w' := by
  obtain ⟨i0, hi, hz0, hz1, hz2⟩ := info_parts info_int
  have HI := Lib.hid (And.intro hi (And.intro hz0 (And.intro hz1 hz2)))
  have HA := Lib.hid ha
  have HL := Lib.hid hl
  have HT := Lib.hid hT
  unfold maxLen at hla _hll
  clear ha hl hT hi hz0 hz1 hz2
  have HSm := Lib.hid (fun W : World => small_any A L cA cL coef.length l.length next W)
  cases hsm : smallB coef.length l.length next
  · rw [hsm] at HSm
    clear hsm
    go_enter Tryd.func8, Tryd.ntmps8
    go_wp2_with fail
    refine (live_any w HT.out).mono ?_
    rintro e w1 ⟨rfl, b1⟩
    have B1 := Lib.hid b1
    clear b1
    go_wp2_with fail
    refine (HSm.out w1).mono ?_
    rintro e w2 ⟨rfl, rfl⟩
    go_wp2_with fail
    go_ret
    exact ⟨rfl, B1.out⟩
  · have hs8 : coef.length ≤ 8 ∧ l.length ≤ 8 ∧ next ≤ 40 := by simp [smallB] at hsm; omega
    obtain ⟨hs1, hs2, hs3⟩ := hs8
    rw [hsm] at HSm
    clear hsm
    by_cases hlen : coef.length = l.length
    · have hne : ((coef.length : Int) != (l.length : Int)) = false := by simp; omega
      have hle1 : coef.length ≤ l.length := by omega
      have hle2 : l.length ≤ coef.length := by omega
      have HLen := Lib.hid hlen
      clear hlen
      go_enter Tryd.func8, Tryd.ntmps8
      go_wp2_with fail
      refine (live_any w HT.out).mono ?_
      rintro e w1 ⟨rfl, b1⟩
      have B1 := Lib.hid b1
      have A1 := Lib.hid (HA.out.up b1)
      have L1 := Lib.hid (HL.out.up b1)
      have T1 := Lib.hid (HT.out.below b1)
      clear b1
      go_wp2_with fail
      refine (HSm.out w1).mono ?_
      rintro e w2 ⟨rfl, rfl⟩
      go_wp2_with fail
      clear hne
      go_loopw [9, 10, 11] (fun bv tv iv wr => OrRel w1 coef l bv tv iv wr) (fun _ _ iv _ => (intOf iv + 1).toNat)
      case atStart => exact ⟨0, _, rfl, by simp, by omega, Own.nil _ _, Own.nil _ _, fun g h => by simp [Value.ownBlock] at h, fun g h => by simp [Value.ownBlock] at h, Below.refl _ _⟩
      case round =>
        obtain ⟨k, i, rfl, hik, hi1, hob, hot, hgb, hgt, hbel⟩ := hrel
        have hk1 : k ≤ l.length := by omega
        have HIK := Lib.hid hik
        have HOb := Lib.hid hob
        have HOt := Lib.hid hot
        have HGb := Lib.hid hgb
        have HGt := Lib.hid hgt
        have HBel := Lib.hid hbel
        clear hik hob hot hgb hgt hbel
        by_cases hi0 : 0 ≤ i
        · obtain ⟨m, rfl⟩ := Int.eq_ofNat_of_zero_le hi0
          have hml : m + 1 + k = l.length := by have := HIK.out; omega
          have hm1 : m < l.length := by omega
          have hm2 : m < coef.length := by omega
          obtain ⟨ab, ao, rfl, hab, ca0⟩ := A1.out.at_ hm2
          obtain ⟨lb, lo, rfl, hlb, cl0⟩ := L1.out.at_ hm1
          have ca := (HBel.out.cell (p := ⟨ab, ao + m, none⟩) hab).trans ca0
          have cl := cl0
          clear ca0 cl0
          have HSb := Lib.hid (revV_snoc coef k m (by rw [HLen.out]; exact hml))
          have HSt := Lib.hid (revV_snoc l k m hml)
          have HLb := Lib.hid (revV_len coef k (by omega))
          have HLt := Lib.hid (revV_len l k (by omega))
          have hkb : k ≤ 8 := by omega
          generalize coef[m] = x at ca HSb
          generalize l[m] = y at cl HSt
          generalize hrb : revV coef k = rb at HOb HSb HLb
          generalize hrt : revV l k = rt at HOt HSt HLt
          have CL := Lib.hid cl
          clear hml hrb hrt cl
          go_wp2_with (at_builtin; refine wpList_push _ rfl (.tmp 45) (.tmp 50) 22 rfl 3 i0 (.int .i64 0) 8 Tryd.underlying22 HI.out.1 HI.out.2.1 HI.out.2.2.1 HI.out.2.2.2 rfl _ rb k HLb.out rfl (HOb.out.alloc _) ⟨wr.heap.size, 0, none⟩ 1 (I64 x) rfl ?c1 rfl ?c2 ?c3 ?_)
          case c1 => simp
          case c2 => unfold maxLen; omega
          case c3 => omega
          intro g2 o2 cp2 w5 hown5 hg5 hat5
          obtain ⟨t1, t2, t3⟩ := two_push (o2 := o2) (n := k + 1) (cp2 := cp2) HGb.out HOt.out HBel.out hg5 hat5
          have cl5 : w5.cell? ⟨lb, lo + m, none⟩ = some (I64 y) := (t3.cell (p := ⟨lb, lo + m, none⟩) hlb).trans CL.out
          have HOw5 := Lib.hid hown5
          have K1 := Lib.hid t1
          have K2 := Lib.hid t2
          have K3 := Lib.hid t3
          clear hown5 hg5 hat5 t1 t2 t3 HOb HOt HGb HBel
          go_wp2_with (at_builtin; refine wpList_push _ rfl (.tmp 52) (.tmp 57) 22 rfl 3 i0 (.int .i64 0) 8 Tryd.underlying22 HI.out.1 HI.out.2.1 HI.out.2.2.1 HI.out.2.2.2 rfl _ rt k HLt.out rfl (K2.out.alloc _) ⟨w5.heap.size, 0, none⟩ 1 (I64 y) rfl ?d1 rfl ?d2 ?d3 ?_)
          case d1 => simp
          case d2 => unfold maxLen; omega
          case d3 => omega
          intro g3 o3 cp3 w6 hown6 hg6 hat6
          obtain ⟨t1, t2, t3⟩ := two_push' (o2 := o3) (n := k + 1) (cp2 := cp3) HGt.out K1.out HOw5.out K3.out hg6 hat6
          have HOw6 := Lib.hid hown6
          have K4 := Lib.hid t1
          have K5 := Lib.hid t2
          have K6 := Lib.hid t3
          clear hown6 hg6 hat6 t1 t2 t3 HOw5 K1 K2 K3
          go_wp2_with fail
          go_roundw
          case rel => exact ⟨k + 1, _, by go_num, by have := HIK.out; omega, by omega, by rw [HSb.out]; exact K5.out, by rw [HSt.out]; exact HOw6.out, K4.out.1, K4.out.2, K6.out⟩
          case measure => simp [intOf]
        · obtain rfl : k = l.length := by have := HIK.out; omega
          have hob := HOb.out
          have hot := HOt.out
          unfold revV at hob hot
          rw [List.take_of_length_le (by rw [List.length_reverse]; omega)] at hob hot
          obtain ⟨bA, bc, ebv, _, hrb⟩ := hob.rd
          obtain ⟨tA, tc, etv, _, hrt⟩ := hot.rd
          have hlb := fun g hg => hob.lt (g := g) hg
          have hlt := fun g hg => hot.lt (g := g) hg
          rw [List.length_reverse] at ebv etv
          subst ebv etv
          have RB := Lib.hid (show Rd I64 (· < wr.heap.size) wr bA coef.reverse from hrb.mono hlb)
          have RT := Lib.hid (show Rd I64 (· < wr.heap.size) wr tA l.reverse from hrt.mono hlt)
          have BW := Lib.hid (below_up B1.out HBel.out)
          have AW := Lib.hid (A1.out.up HBel.out)
          have LW := Lib.hid (L1.out.up HBel.out)
          have TW := Lib.hid (T1.out.below HBel.out)
          have HRv := Lib.hid (sumP_rev coef l next HLen.out)
          clear hob hot hrb hrt hlb hlt HOb HOt HGb HGt HBel HIK
          cases hr : sumP coef l next with
          | err c =>
            have HR := Lib.hid (And.intro hr (HRv.out.1 c hr))
            have hc0 : (c != 0) = true := sumP_err hr
            clear hr
            go_wp2_with fail
            with_reducible refine (sum_err A L cA cL coef.length l.length coef l next c wr rfl rfl AW.out LW.out TW.out (by omega) (by omega) HR.out.1).mono ?_
            rintro e w3 ⟨rfl, b3⟩
            have B3 := Lib.hid b3
            clear b3
            go_wp2_with fail
            with_reducible refine (sum_err bA tA bc tc coef.length l.length coef.reverse l.reverse next c w3 (by simp) (by simp) (RB.out.up B3.out) (RT.out.up B3.out) (TW.out.below B3.out) (by omega) (by omega) HR.out.2).mono ?_
            rintro e w4 ⟨rfl, b4⟩
            have B4 := Lib.hid (below_up BW.out (below_up B3.out b4))
            clear b4
            go_wp2_with fail
            go_ret
            exact ⟨rfl, B4.out⟩
          | ok bits cs after =>
            obtain ⟨bits', cs', hr'⟩ := HRv.out.2 bits cs after hr
            obtain ⟨hsb, hsa⟩ := sumP_small hr hs1
            obtain ⟨hsb', hsa'⟩ := sumP_small hr' (by simpa using hs1)
            obtain ⟨p1, p2, q3, q4, q5, p3, q7, q8, p4⟩ := sumP_size hr
            obtain ⟨p5, p6, _, _, _, p7, q7', q8', p8⟩ := sumP_size hr'
            clear p1 p2 p3 p4 p5 p6 p7 p8
            obtain ⟨n, hn⟩ : ∃ n : Nat, next = n + 1 := ⟨(next - 1).toNat, by omega⟩
            have hn1 : n ≤ 39 := by omega
            obtain ⟨F, f1, f2, f3, f4, f5⟩ := sumP_cor hr (truthsP n pick) (by rw [truthsP_len]; omega)
            obtain ⟨F', f1', f2', f3', f4', f5'⟩ := sumP_cor hr' (truthsP n pick) (by rw [truthsP_len]; omega)
            have hF1 : F.length ≤ 66000 := by omega
            have hF2 : F'.length ≤ 66000 := by omega
            have HN := Lib.hid (show next - 1 = (n : Int) by omega)
            have HNum := Lib.hid (show ((numB (bvOf bits' F') bits'.length : Nat) : Int) = ((numB (bvOf bits F) bits.length : Nat) : Int) by rw [f4', f5', f4, f5, zip_rev coef l HLen.out, sumZ_rev])
            have HR := Lib.hid (And.intro hr hr')
            have QL := Lib.hid (And.intro (sum_lits hr) (sum_lits hr'))
            have FF := Lib.hid (And.intro f1 f1')
            have HTL := Lib.hid (truthsP_len n pick)
            clear hr hr' hn f1 f1' f2 f2' f3 f3' f4 f4' f5 f5'
            go_wp2_with fail
            with_reducible refine (sum_ok A L cA cL coef.length l.length coef l next bits cs after wr rfl rfl AW.out LW.out TW.out (by omega) (by omega) HR.out.1).mono ?_
            rintro e w3 ⟨A3, cA3, C3, cC3, rfl, _, _, rd3, rl3, b3⟩
            have B3 := Lib.hid b3
            have R3 := Lib.hid (And.intro rd3 rl3)
            clear b3 rd3 rl3
            go_wp2_with fail
            with_reducible refine (sum_ok bA tA bc tc coef.length l.length coef.reverse l.reverse next bits' cs' after w3 (by simp) (by simp) (RB.out.up B3.out) (RT.out.up B3.out) (TW.out.below B3.out) (by omega) (by omega) HR.out.2).mono ?_
            rintro e w4 ⟨A4, cA4, C4, cC4, rfl, _, _, rd4, rl4, b4⟩
            have B4 := Lib.hid (below_up BW.out (below_up B3.out b4))
            have R4 := Lib.hid (And.intro (And.intro (R3.out.1.up b4) (R3.out.2.up b4)) (And.intro rd4 rl4))
            clear b4 rd4 rl4 R3
            have o1 : decide (after < next) = false := by simp; omega
            have o2 : decide (next + 2000 < after) = false := by simp; omega
            go_wp2_with fail
            with_reducible refine (truths_at (n := n) HN.out (by omega)).mono ?_
            rintro e w5 ⟨ta, tc2, rfl, tr, b5⟩
            have B5 := Lib.hid (below_up B4.out b5)
            have R5 := Lib.hid (And.intro (And.intro (R4.out.1.1.up b5) (R4.out.1.2.up b5)) (And.intro (R4.out.2.1.up b5) (R4.out.2.2.up b5)))
            have T5 := Lib.hid tr
            clear b5 tr R4
            go_wp2_with fail
            with_reducible refine (told_at (a := truthsP n pick) (F := F) R5.out.1.2 T5.out (by omega) QL.out.1 (by rw [HTL.out]; omega) (by rw [HTL.out]; omega) (by omega) (by omega) (by omega) (by omega) HTL.out FF.out.1).mono ?_
            rintro e w6 ⟨Fa, Fc, rfl, fr, b6⟩
            have B6 := Lib.hid (below_up B5.out b6)
            have R6 := Lib.hid (And.intro (And.intro (R5.out.1.1.up b6) fr) (And.intro (R5.out.2.1.up b6) (R5.out.2.2.up b6)))
            clear b6 fr R5 T5
            go_wp2_with fail
            with_reducible refine (truths_at (n := n) HN.out (by omega)).mono ?_
            rintro e w7 ⟨ta7, tc7, rfl, tr7, b7⟩
            have B7 := Lib.hid (below_up B6.out b7)
            have R7 := Lib.hid (And.intro (And.intro (R6.out.1.1.up b7) (R6.out.1.2.up b7)) (And.intro (R6.out.2.1.up b7) (R6.out.2.2.up b7)))
            have T7 := Lib.hid tr7
            clear b7 tr7 R6
            go_wp2_with fail
            with_reducible refine (told_at (a := truthsP n pick) (F := F') R7.out.2.2 T7.out (by omega) QL.out.2 (by rw [HTL.out]; omega) (by rw [HTL.out]; omega) (by omega) (by omega) (by omega) (by omega) HTL.out FF.out.2).mono ?_
            rintro e w8 ⟨Fa8, Fc8, rfl, fr8, b8⟩
            have B8 := Lib.hid (below_up B7.out b8)
            have R8 := Lib.hid (And.intro (And.intro (R7.out.1.1.up b8) (R7.out.1.2.up b8)) (And.intro (R7.out.2.1.up b8) fr8))
            clear b8 fr8 R7 T7
            go_wp2_with fail
            with_reducible refine (number_at (a := F) R8.out.1.1 R8.out.1.2 (by omega) (by omega) rfl rfl).mono ?_
            rintro e w9 ⟨rfl, b9⟩
            have B9 := Lib.hid (below_up B8.out b9)
            have R9 := Lib.hid (And.intro (R8.out.2.1.up b9) (R8.out.2.2.up b9))
            clear b9 R8
            go_wp2_with fail
            with_reducible refine (number_at (a := F') R9.out.1 R9.out.2 (by omega) (by omega) rfl HNum.out).mono ?_
            rintro e w10 ⟨rfl, b10⟩
            have B10 := Lib.hid (below_up B9.out b10)
            clear b10
            go_wp2_with fail
            go_ret
            exact ⟨rfl, B10.out⟩
    · have hne : ((coef.length : Int) != (l.length : Int)) = true := by simp; omega
      clear hlen
      go_enter Tryd.func8, Tryd.ntmps8
      go_wp2_with fail
      refine (live_any w HT.out).mono ?_
      rintro e w1 ⟨rfl, b1⟩
      have B1 := Lib.hid b1
      clear b1
      go_wp2_with fail
      refine (HSm.out w1).mono ?_
      rintro e w2 ⟨rfl, rfl⟩
      go_wp2_with fail
      go_ret
      exact ⟨rfl, B1.out⟩
end Go.Proofs.YtogolfneckhnaaaDoor
