/- Lemmas and contracts for the row. -/
import Derived.Test.YtkkapbnopmmmjaaDoorPkRowEncodeConcatenatesE
import Derived.Carry
import Derived.Test.YtkkapbnopmmmjaaDoorPkRowEncodeConcatenatesC
import Derived.Test.YtkkapbnopmmmjaaDoorPkRowEncodeConcatenatesA
import Derived.Maps.Own
set_option linter.unusedVariables false
set_option linter.unusedSimpArgs false
set_option linter.unnecessarySimpa false
namespace Go.Proofs.YtkkapbnopmmmjaaDoor
open Go.RowKit Go.Shelf
def SumPost (w : World) (r : SumR) (e : Ending) (w' : World) : Prop :=
  match r with
  | .err c => e = .returned (.tuple #[.slice none 0 0, .slice none 0 0, I64 0, I64 c]) ∧ Below w.heap.size w w'
  | .ok bits cs after => ∃ A cA C cC, e = .returned (.tuple #[.slice A bits.length cA, .slice C cs.length cC, I64 after, I64 0]) ∧ bits.length ≤ cA ∧ cs.length ≤ cC ∧
      Rd I64 (· < w'.heap.size) w' A bits ∧ RdL (· < w'.heap.size) w' C cs ∧ Below w.heap.size w w' ∧
      Own w' 3 (.slice A bits.length cA) (bits.map I64) ∧ (∀ b, (Value.slice A bits.length cA).ownBlock = some b → w.heap.size ≤ b) ∧ Bag w.heap.size w' (.slice C cs.length cC) cs
theorem TabAt.below {w w' : World} (h : TabAt w) (hb : Below w.heap.size w w') : TabAt w' := fun j hj =>
  (hb.cell (World.block_lt_of_cell? w _ (h j hj))).trans (h j hj)
theorem results_tmp4 {fn : Func} {t u v x : Tmp} (h : fn.results = #[.tmp t, .tmp u, .tmp v, .tmp x]) (tmps : Array Value) (P : Program) (w : World) :
    (results fn tmps).run P w = .ok (.tuple #[tmps.getD t undef, tmps.getD u undef, tmps.getD v undef, tmps.getD x undef]) w := by simp [results, h]
set_option maxRecDepth 100000 in
set_option maxHeartbeats 3200000 in
theorem sum_bad (A L : Option Addr) (cA cL : Nat) (coef l : List Int) (next : Int) (w : World)
    (hg : next < 1 ∨ 65537 < next ∨ coef.length ≠ l.length) :
    Calls Tryd.prog 50 #[.slice A coef.length cA, .slice L l.length cL, I64 next] w (SumPost w (sumP coef l next)) := by
  have hr : Hid (sumP coef l next = .err 1) := by show _ = _; rw [sumP, if_pos hg]
  have HG := Lib.hid hg
  clear hg
  rcases HG.out with h | h | h
  · go_enter Tryd.func50, Tryd.ntmps50
    go_wp2_with fail
    refine bodyPost_ret (results_tmp4 rfl _ _ _) rfl ?_
    rw [hr.out]; exact ⟨rfl, Below.refl _ _⟩
  · by_cases h' : next < 1
    · omega
    · go_enter Tryd.func50, Tryd.ntmps50
      go_wp2_with fail
      refine bodyPost_ret (results_tmp4 rfl _ _ _) rfl ?_
      rw [hr.out]; exact ⟨rfl, Below.refl _ _⟩
  · have hne : ((coef.length : Int) != (l.length : Int)) = true := by simp; omega
    clear h
    by_cases h1 : next < 1
    · go_enter Tryd.func50, Tryd.ntmps50
      go_wp2_with fail
      refine bodyPost_ret (results_tmp4 rfl _ _ _) rfl ?_
      rw [hr.out]; exact ⟨rfl, Below.refl _ _⟩
    · by_cases h2 : 65537 < next
      · go_enter Tryd.func50, Tryd.ntmps50
        go_wp2_with fail
        refine bodyPost_ret (results_tmp4 rfl _ _ _) rfl ?_
        rw [hr.out]; exact ⟨rfl, Below.refl _ _⟩
      · go_enter Tryd.func50, Tryd.ntmps50
        go_wp2_with fail
        refine bodyPost_ret (results_tmp4 rfl _ _ _) rfl ?_
        rw [hr.out]; exact ⟨rfl, Below.refl _ _⟩
end Go.Proofs.YtkkapbnopmmmjaaDoor
namespace Go.Proofs.YtkkapbnopmmmjaaDoor
open Go.RowKit Go.Shelf
def LeastPost (w : World) (r : LeastR) (e : Ending) (w' : World) : Prop :=
  match r with
  | .err c => e = .returned (.tuple #[.slice none 0 0, I64 c]) ∧ Below w.heap.size w w'
  | .ok cs => ∃ C cC, e = .returned (.tuple #[.slice C cs.length cC, I64 0]) ∧ cs.length ≤ cC ∧ RdL (· < w'.heap.size) w' C cs ∧ Below w.heap.size w w' ∧ Bag w.heap.size w' (.slice C cs.length cC) cs
theorem odd_any (x : Int) (w : World) : Calls Tryd.prog 66 #[I64 x] w fun e w' => e = .returned (.bool (oddB x)) ∧ w = w' := by
  by_cases h1 : x < -65536
  · have d1 : decide (x < -65536) = true := by simpa using h1
    go_enter Tryd.func66, Tryd.ntmps66
    go_wp2
    go_ret
    exact ⟨by simp [oddB, d1], rfl⟩
  · have d1 : decide (x < -65536) = false := by simpa using h1
    by_cases h2 : 65536 < x
    · have d2 : decide (65536 < x) = true := by simpa using h2
      go_enter Tryd.func66, Tryd.ntmps66
      go_wp2
      go_ret
      exact ⟨by simp [oddB, d2], rfl⟩
    · have d2 : decide (65536 < x) = false := by simpa using h2
      go_enter Tryd.func66, Tryd.ntmps66
      go_wp2
      go_ret
      exact ⟨by simp [oddB, d1, d2], rfl⟩
def lcv (x : Int) (i t K : Nat) : Bool := x != 0 && (i == t || (decide (t < i) && !K.testBit i))
theorem bit_test0 (k j : Nat) (hk : k < 9223372036854775808) : (bits BinOp.and IntKind.i64 ((k : Int) / 2 ^ j) 1 == 0) = !k.testBit j := by
  have e1 : (k : Int) / 2 ^ j = ((k / 2 ^ j : Nat) : Int) := by simp
  have h2 : k / 2 ^ j < 9223372036854775808 := Nat.lt_of_le_of_lt (Nat.div_le_self _ _) hk
  have e2 := i64_and_nat (k / 2 ^ j) 1 h2 (by omega)
  rw [e1, show (1 : Int) = ((1 : Nat) : Int) from rfl, e2, Nat.and_one_is_mod, Nat.testBit_eq_decide_div_mod_eq]
  rcases Nat.mod_two_eq_zero_or_one (k / 2 ^ j) with h | h <;> rw [h] <;> decide
theorem least_push {wo wr w5 : World} {cvv : Value} {o : Obj} {g2 o2 n cp2 : Nat} (hg : ∀ g, cvv.ownBlock = some g → wo.heap.size ≤ g) (hb : Below wo.heap.size wo wr) (hg5 : (wr.alloc o).grownBy w5 cvv.ownBlock) (hat : cvv.ownBlock = some g2 ∨ g2 = wr.heap.size + 1) :
    (∀ g, (Value.slice (some ⟨g2, o2, none⟩) n cp2).ownBlock = some g → wo.heap.size ≤ g) ∧ Below wo.heap.size wo w5 := by
  refine ⟨fun g e => ?_, ?_⟩
  · have e : g2 = g := by simpa [Value.ownBlock] using e
    subst e
    rcases hat with e | e
    · exact hg _ e
    · have := hb.size
      omega
  · exact (hb.alloc hb.size o).grown hg5 (Nat.le_trans hb.size (by simp)) (fun g e => hg g e)
theorem belowle {w wo wr : World} (h : Below w.heap.size w wo) (h' : Below wo.heap.size wo wr) : Below w.heap.size wo wr := ⟨h'.os, h'.tape, h'.output, h'.size, fun i hi => h'.block i (Nat.lt_of_lt_of_le hi h.size)⟩
theorem own_cl' {E : Nat → Prop} {w : World} {v : Value} {ys : List Int} (h : Own w 3 v (ys.map I64)) (hE : ∀ g, v.ownBlock = some g → E g) : Cl E w v ys := by
  obtain ⟨A, cap, e, h1, h2⟩ := h.rd
  exact ⟨A, cap, e, h1, h2.mono (fun b hb => ⟨h.ty0 hb (by decide), hE b hb⟩)⟩
set_option maxRecDepth 100000 in
set_option maxHeartbeats 3200000 in
theorem least_any (A : Option Addr) (cA : Nat) (l : List Int) (k : Int) (w : World) (ha : Rd I64 (· < w.heap.size) w A l) (hT : TabAt w) (hll : l.length ≤ 1000000000) :
    Calls Tryd.prog 51 #[.slice A l.length cA, I64 k] w (LeastPost w (leastP l k)) := by
  obtain ⟨i0, hi, hz0, hz1, hz2⟩ := info_parts info_int
  have HI := Lib.hid (And.intro hi (And.intro hz0 (And.intro hz1 hz2)))
  obtain ⟨j0, hj, hy0, hy1, hy2⟩ := info_parts info_ints
  have HJ := Lib.hid (And.intro hj (And.intro hy0 (And.intro hy1 hy2)))
  have hcf := cf_any 66 [] oddB A cA l w (enters_of Tryd.func66 (by kernel_rfl) rfl) (fun x _ n => (odd_any x _).mono fun _ _ ⟨h1, h2⟩ => ⟨h1, n, h2.symm⟩) ha (by unfold maxLen; omega)
  have HCF := Lib.hid hcf
  have HA := Lib.hid ha
  have HT := Lib.hid hT
  clear ha hT hi hz0 hz1 hz2 hj hy0 hy1 hy2 hcf
  by_cases hk0 : k < 0
  · have hr := Lib.hid (show leastP l k = .err 1 by rw [leastP, if_pos (.inl hk0)])
    go_enter Tryd.func51, Tryd.ntmps51
    go_wp2_with fail
    go_ret2
    rw [hr.out]; exact ⟨rfl, Below.refl _ _⟩
  · by_cases hk1 : 4503599627370496 < k
    · have hr := Lib.hid (show leastP l k = .err 1 by rw [leastP, if_pos (.inr (.inl hk1))])
      go_enter Tryd.func51, Tryd.ntmps51
      go_wp2_with fail
      go_ret2
      rw [hr.out]; exact ⟨rfl, Below.refl _ _⟩
    · generalize hany : l.any oddB = b at HCF
      cases b
      · by_cases hbig : 60 < l.length
        · have hr := Lib.hid (show leastP l k = .err 2 by rw [leastP, if_neg (by rw [hany]; simp; omega), if_pos hbig])
          clear hany
          have d1 : decide (k < 0) = false := by simp; omega
          have d2 : decide (4503599627370496 < k) = false := by simp; omega
          go_enter Tryd.func51, Tryd.ntmps51
          go_wp2_with fail
          refine HCF.out.mono ?_
          rintro e w1 ⟨rfl, q1, hq1⟩
          have HQ1 := Lib.hid hq1
          clear hq1
          go_wp2_with fail
          go_ret2
          rw [hr.out, HQ1.out]; exact ⟨rfl, ⟨rfl, rfl, rfl, Nat.le_refl _, fun _ _ => rfl⟩⟩
        · have hr := Lib.hid (show leastP l k = .ok (leastTo l k.toNat 64) by rw [leastP, if_neg (by rw [hany]; simp; omega), if_neg hbig])
          clear hany
          have d1 : decide (k < 0) = false := by simp; omega
          have d2 : decide (4503599627370496 < k) = false := by simp; omega
          have d3 : decide (60 < (l.length : Int)) = false := by simp; omega
          obtain ⟨K, rfl⟩ := Int.eq_ofNat_of_zero_le (show 0 ≤ k by omega)
          rw [Int.toNat_natCast] at hr
          go_enter Tryd.func51, Tryd.ntmps51
          go_wp2_with fail
          refine HCF.out.mono ?_
          rintro e w1 ⟨rfl, q1, hq1⟩
          have HQ1 := Lib.hid hq1
          clear hq1
          go_wp2_with fail
          clear d1 d2 d3
          go_loopw [7, 8] (fun ov nv wr => ∃ j n : Nat, nv = .int .u64 n ∧ j ≤ 64 ∧ n = K / 2 ^ j * 2 ^ j ∧ Bag w.heap.size wr ov (leastTo l K j) ∧ Below w.heap.size w wr) (fun _ nv _ => (intOf nv).toNat)
          case atStart => exact ⟨0, K, rfl, by omega, by simp, Bag.nil _ _, by rw [HQ1.out]; exact ⟨rfl, rfl, rfl, Nat.le_refl _, fun _ _ => rfl⟩⟩
          case round =>
            obtain ⟨j, n, rfl, hj, hn, hbag, hbel⟩ := hrel
            have hnc : n ≤ K := by rw [hn]; exact Nat.div_mul_le_self _ _
            have HN := Lib.hid hn
            have HBag := Lib.hid hbag
            have HBel := Lib.hid hbel
            clear hn hbag hbel
            by_cases hn0 : 0 < n
            · have htz := fun W hW => tz_any n (by omega) (by omega) W hW
              obtain ⟨mm, hnt, ht64⟩ := Lib.ctzFrom_spec 64 n hn0 (by omega)
              rw [show Lib.ctzFrom 64 n = Lib.ctz 64 n by unfold Lib.ctz; rw [if_neg (by omega)]] at hnt ht64
              generalize Lib.ctz 64 n = t at htz hnt ht64
              obtain ⟨f1, f2', f3, f4⟩ := feed_step K j n t mm HN.out hnt
              have hfs : leastTo l K (t + 1) = leastTo l K j ++ [clTo l K t l.length] := by rw [leastTo_succ, if_pos f2', leastTo_skip l K j t f1 f3]
              have hand : bits BinOp.and IntKind.u64 (n : Int) ((n : Int) - 1) = ((n &&& (n - 1) : Nat) : Int) := by
                rw [show (n : Int) - 1 = ((n - 1 : Nat) : Int) by omega]
                exact bits_and_u64_nat n (n - 1) (by omega) (by omega)
              have hdec : n &&& (n - 1) ≤ n - 1 := Nat.and_le_right
              have HTZ := Lib.hid htz
              have HFS := Lib.hid hfs
              have HF4 := Lib.hid f4
              have HAND := Lib.hid hand
              clear htz hnt f2' f3 f4 hfs hand
              go_wp2_with fail
              refine (HTZ.out _ (HT.out.below HBel.out)).mono ?_
              rintro e w4 ⟨rfl, rfl⟩
              go_wp2_with fail
              obtain ⟨wo, rfl⟩ : ∃ wo : World, wo = wr := ⟨_, rfl⟩
              go_loopw [10, 42] (fun cvv iv wr => ∃ i : Nat, iv = .int .i64 i ∧ i ≤ l.length ∧ Own wr 3 cvv ((clTo l K t i).map I64) ∧ (∀ g, cvv.ownBlock = some g → wo.heap.size ≤ g) ∧ Below wo.heap.size wo wr) (fun _ iv _ => l.length - (intOf iv).toNat)
              case atStart => exact ⟨0, rfl, Nat.zero_le _, Own.empty wo _, fun g h => by simp [Value.ownBlock] at h; omega, (Below.refl _ _).alloc (Nat.le_refl _) _⟩
              case round =>
                obtain ⟨i, rfl, hi, hoc, hgc, hbc⟩ := hrel
                have HOc := Lib.hid hoc
                have HGc := Lib.hid hgc
                have HBc := Lib.hid hbc
                have hcl := clTo_len l K t i
                have HLc := Lib.hid (show ((clTo l K t i).map I64).length = (clTo l K t i).length by simp)
                clear hoc hgc hbc
                by_cases hlt : i < l.length
                · obtain ⟨ab, ao, rfl, _, ca⟩ := (show Rd I64 (· < w.heap.size) wr A l from (HA.out.below HBel.out).below (belowle HBel.out HBc.out)).at_ hlt
                  have hsu := clTo_succ l K t i
                  have hgd : l.getD i 0 = l[i] := by rw [List.getD_eq_getElem?_getD, List.getElem?_eq_getElem hlt]; rfl
                  have hcd : lcond K l t i = lcv l[i] i t K := by unfold lcond lcv; rw [hgd]
                  rw [hgd] at hsu
                  generalize l[i] = x at ca hsu hcd
                  have HSu := Lib.hid hsu
                  have HCd := Lib.hid hcd
                  clear hsu hcd hgd
                  by_cases h1 : x = 0
                  · have q1 : (x != 0) = false := by simpa using h1
                    have HCv := Lib.hid (show ¬ lcv x i t K = true by simp [lcv, h1])
                    clear h1
                    go_wp2_with fail
                    go_roundw
                    case rel => exact ⟨i + 1, by go_num, by omega, by rw [HSu.out, if_neg (by rw [HCd.out]; exact HCv.out), List.append_nil]; exact HOc.out, HGc.out, HBc.out⟩
                    case measure => simp [intOf]; omega
                  · have q1 : (x != 0) = true := by simpa using h1
                    have H1 := Lib.hid h1
                    clear h1
                    by_cases h2 : i = t
                    · have q2 : ((i : Int) == (t : Int)) = true := by simp; omega
                      have HCv := Lib.hid (show lcv x i t K = true by simp [lcv, h2, H1.out])
                      have H2 := Lib.hid h2
                      clear h2
                      go_wp2_with (at_builtin; refine wpList_push _ rfl (.tmp 66) (.tmp 68) 24 rfl 3 i0 (.int .i64 0) 8 Tryd.underlying24 HI.out.1 HI.out.2.1 HI.out.2.2.1 HI.out.2.2.2 rfl _ ((clTo l K t i).map I64) _ HLc.out rfl (HOc.out.alloc _) ⟨wr.heap.size, 0, none⟩ 1 (I64 x) rfl ?c1a rfl ?c2a ?c3a ?_)
                      case c1a => simp
                      case c2a => unfold maxLen; omega
                      case c3a => omega
                      intro g2 o2 cp2 w5 hown5 hg5 hat5
                      have hk5 := least_push (o2 := o2) (n := (clTo l K t i).length + 1) (cp2 := cp2) HGc.out HBc.out hg5 hat5
                      have HOw5 := Lib.hid hown5
                      have HK5 := Lib.hid hk5
                      clear hown5 hg5 hat5 hk5
                      go_wp2_with fail
                      go_roundw
                      case rel => exact ⟨i + 1, by go_num, by omega, by rw [HSu.out, if_pos (by rw [HCd.out]; exact HCv.out), List.map_append]; exact HOw5.out, HK5.out.1, HK5.out.2⟩
                      case measure => simp [intOf]; omega
                    · have q2 : ((i : Int) == (t : Int)) = false := by simp; omega
                      have H2 := Lib.hid h2
                      clear h2
                      by_cases h3 : t < i
                      · by_cases h4 : K.testBit i = true
                        · have q4 : (bits BinOp.and IntKind.i64 ((K : Int) / 2 ^ i) 1 == 0) = false := by rw [bit_test0 K i (by omega), h4]; rfl
                          have HCv := Lib.hid (show ¬ lcv x i t K = true by simp [lcv, H2.out, h4])
                          have H4 := Lib.hid h4
                          clear h4
                          go_wp2_with fail
                          go_roundw
                          case rel => exact ⟨i + 1, by go_num, by omega, by rw [HSu.out, if_neg (by rw [HCd.out]; exact HCv.out), List.append_nil]; exact HOc.out, HGc.out, HBc.out⟩
                          case measure => simp [intOf]; omega
                        · have q4 : (bits BinOp.and IntKind.i64 ((K : Int) / 2 ^ i) 1 == 0) = true := by rw [bit_test0 K i (by omega)]; simpa using h4
                          have HCv := Lib.hid (show lcv x i t K = true by simp [lcv, H1.out, h3, h4])
                          have H4 := Lib.hid h4
                          clear h4
                          go_wp2_with (at_builtin; refine wpList_push _ rfl (.tmp 66) (.tmp 68) 24 rfl 3 i0 (.int .i64 0) 8 Tryd.underlying24 HI.out.1 HI.out.2.1 HI.out.2.2.1 HI.out.2.2.2 rfl _ ((clTo l K t i).map I64) _ HLc.out rfl (HOc.out.alloc _) ⟨wr.heap.size, 0, none⟩ 1 (I64 x) rfl ?c1b rfl ?c2b ?c3b ?_)
                          case c1b => simp
                          case c2b => unfold maxLen; omega
                          case c3b => omega
                          intro g2 o2 cp2 w5 hown5 hg5 hat5
                          have hk5 := least_push (o2 := o2) (n := (clTo l K t i).length + 1) (cp2 := cp2) HGc.out HBc.out hg5 hat5
                          have HOw5 := Lib.hid hown5
                          have HK5 := Lib.hid hk5
                          clear hown5 hg5 hat5 hk5
                          go_wp2_with fail
                          go_roundw
                          case rel => exact ⟨i + 1, by go_num, by omega, by rw [HSu.out, if_pos (by rw [HCd.out]; exact HCv.out), List.map_append]; exact HOw5.out, HK5.out.1, HK5.out.2⟩
                          case measure => simp [intOf]; omega
                      · have HCv := Lib.hid (show ¬ lcv x i t K = true by simp [lcv, H2.out, h3])
                        go_wp2_with fail
                        go_roundw
                        case rel => exact ⟨i + 1, by go_num, by omega, by rw [HSu.out, if_neg (by rw [HCd.out]; exact HCv.out), List.append_nil]; exact HOc.out, HGc.out, HBc.out⟩
                        case measure => simp [intOf]; omega
                · obtain rfl : i = l.length := by omega
                  obtain ⟨vs, b1, b2, b3, b4⟩ := HBag.out.below HBc.out
                  have hcw : Cl (fun b => w.heap.size ≤ b) wr _ (clTo l K t l.length) := own_cl' HOc.out (fun g hg => Nat.le_trans HBel.out.size (HGc.out g hg))
                  have HCw := Lib.hid hcw
                  obtain ⟨cA', cc', ecv, _, _⟩ := hcw
                  subst ecv
                  have HV := Lib.hid (And.intro b1 (And.intro b2 (And.intro b3 b4)))
                  have hll2 := leastTo_len l K j
                  clear b1 b2 b3 b4
                  go_wp2_with (at_builtin; refine wpList_push _ rfl (.tmp 71) (.tmp 73) 27 rfl 24 j0 (.slice none 0 0) 24 Tryd.underlying27 HJ.out.1 HJ.out.2.1 HJ.out.2.2.1 HJ.out.2.2.2 rfl _ vs (leastTo l K j).length HV.out.2.2.1 rfl (HV.out.1.alloc _) ⟨wr.heap.size, 0, none⟩ 1 (.slice cA' (clTo l K t l.length).length cc') rfl ?c1c rfl ?c2c ?c3c ?_)
                  case c1c => simp
                  case c2c => unfold maxLen; omega
                  case c3c => omega
                  intro g2 o2 cp2 w5 hown5 hg5 hat5
                  have hpu := Bag.push (Nat.le_trans HBel.out.size HBc.out.size) HV.out.1 HV.out.2.1 HV.out.2.2.1 HV.out.2.2.2 HCw.out hown5 hg5 hat5
                  rw [← HFS.out] at hpu
                  have HPu := Lib.hid hpu
                  clear hown5 hg5 hat5 hpu
                  go_wp2_with fail
                  go_roundw
                  case rel => exact ⟨t + 1, n &&& (n - 1), by rw [HAND.out], by omega, HF4.out, HPu.out.1, HBel.out.trans ((belowle HBel.out HBc.out).trans HPu.out.2)⟩
                  case measure => rw [HAND.out]; simp [intOf]; omega
            · go_wp2_with fail
              go_ret2
              rw [hr.out, leastTo_end l K j hj (by rw [← HN.out]; omega)]
              have hbg := HBag.out
              obtain ⟨C, cC, e1, e2, e3⟩ := HBag.out.rdl
              subst e1
              exact ⟨C, cC, rfl, e2, e3, HBel.out, hbg⟩
      · have hr := Lib.hid (show leastP l k = .err 1 by rw [leastP, if_pos (.inr (.inr hany))])
        clear hany
        have d1 : decide (k < 0) = false := by simp; omega
        have d2 : decide (4503599627370496 < k) = false := by simp; omega
        go_enter Tryd.func51, Tryd.ntmps51
        go_wp2_with fail
        refine HCF.out.mono ?_
        rintro e w1 ⟨rfl, q1, hq1⟩
        have HQ1 := Lib.hid hq1
        clear hq1
        go_wp2_with fail
        go_ret2
        rw [hr.out, HQ1.out]; exact ⟨rfl, ⟨rfl, rfl, rfl, Nat.le_refl _, fun _ _ => rfl⟩⟩
end Go.Proofs.YtkkapbnopmmmjaaDoor
namespace Go.Proofs.YtkkapbnopmmmjaaDoor
open Go.RowKit Go.Shelf
attribute [local go_sem ↓] Go.wp_at_zero Go.wp_at_succ
abbrev pairVl (a b : Int) : Value := .agg #[I64 a, I64 b]
theorem zero2 (w : World) : (zeroValue 53).run Tryd.prog w = .ok (pairVl 0 0) w := by kernel_rfl
def R0 (_ : Value) : Option (DataW Unit × List MemPlace) := some (.lit (.bool true), [])
def Fits (w : World) (m n : Nat) : Prop := ∃ D : DataW Unit, w.ownsMap Tryd.prog 3 R0 m n D
theorem Fits.kp {M : Nat → Prop} {w w' : World} {m n : Nat} (h : Fits w m n) (hk : Kp M w w') (hm : ¬ M m) : Fits w' m n := by
  obtain ⟨D, h⟩ := h
  have hlt := h.lt
  obtain ⟨es, clock, hb, F, hs, hD⟩ := h
  exact ⟨D, es, clock, (hk.block m hlt hm).trans hb, F, hs, hD⟩
theorem Fits.upd {w w' : World} {m n : Nat} (h : Fits w m n) (hn : n < maxLen) {k : Int} (hk : -9223372036854775808 ≤ k ∧ k ≤ 9223372036854775807) {v : Value} (hr : (Instr.mapUpdate 51 (.map (some m)) (.int .i64 k) v).run Tryd.prog w = .ok () w') : Fits w' m (n + 1) := by
  obtain ⟨D, h⟩ := h
  obtain ⟨w2, hr2, h2, _⟩ := h.update (Go.Maps.int_keyed Tryd.underlying3) Tryd.underlying51 hn (key := .int .i64 k) (val := v) (kl := .int .i64 k) (d := .lit (.bool true)) (ps := []) (Go.Maps.keyOf_int_mk Tryd.underlying3 (by simp [Lit.wf]; exact hk)) rfl
  rw [hr] at hr2
  injection hr2 with _ e
  subst e
  exact ⟨_, h2⟩
theorem Kp.one_trans {m : Nat} {w w' w'' : World} (h : Kp (· = m) w w') (h' : Kp (· = m) w' w'') : Kp (· = m) w w'' := h.trans h' (fun _ _ e => e)
set_option maxRecDepth 100000 in
set_option maxHeartbeats 1600000 in
theorem norm1_any (m n : Nat) (f : Int → Option Value) (c x a b : Int) (w : World) (hm : MapI w m f) (hft : Fits w m n) (hn : n ≤ 100000) (hf : (f (x.natAbs : Int)).getD (pairVl 0 0) = pairVl a b) (hx1 : -65536 ≤ x) (hx2 : x ≤ 65536)
    (ha : -1000000000000000000 ≤ a ∧ a ≤ 1000000000000000000) (hb : -1000000000000000000 ≤ b ∧ b ≤ 1000000000000000000) (hc : -1099511627776 ≤ c ∧ c ≤ 1099511627776) :
    Calls Tryd.prog 21 #[.map (some m), I64 c, I64 x] w fun e w' => e = .returned (.map (some m)) ∧ MapI w' m (upd f (x.natAbs : Int) (if 0 < x then pairVl (a + c) b else pairVl a (b + c))) ∧ Fits w' m (n + 1) ∧ Kp (· = m) w w' := by
  have HLF := Lib.hid (fun W => of_any x W (by omega) (by omega))
  have hlk := run_look (P := Tryd.prog) 51 3 53 (pairVl 0 0) Tryd.underlying51 Tryd.underlying3 zero2 hm (x.natAbs : Int)
  rw [hf] at hlk
  obtain ⟨ha1, ha2⟩ := ha
  obtain ⟨hb1, hb2⟩ := hb
  obtain ⟨hc1, hc2⟩ := hc
  have HM := Lib.hid hm
  have HFt := Lib.hid hft
  have hvb : -9223372036854775808 ≤ (x.natAbs : Int) ∧ (x.natAbs : Int) ≤ 9223372036854775807 := by omega
  have HVb := Lib.hid hvb
  clear hm hf hft hvb
  generalize (x.natAbs : Int) = v at *
  by_cases hp : 0 < x
  · rw [if_pos hp]
    obtain ⟨w6, hr6, hm6, hg6, _⟩ := run_upd (P := Tryd.prog) 51 3 53 Tryd.underlying51 Tryd.underlying3 (show MapI (w.alloc (Obj.cells #[I64 (a + c), I64 b] 53)).drew m f from HM.out.kp ((Kp.refl (fun _ => False) w).alloc _).drew (fun h => h)) v (pairVl (a + c) b)
    have HK := Lib.hid (show MapI w6 m (upd f v (pairVl (a + c) b)) ∧ Fits w6 m (n + 1) ∧ Kp (· = m) w w6 from ⟨hm6, (HFt.out.kp ((Kp.refl (fun _ => False) w).alloc _).drew (fun h => h)).upd (by unfold maxLen; omega) HVb.out hr6, (((Kp.refl (· = m) w).alloc _).drew).grown hg6 (fun g e _ => by injection e with e; exact e.symm)⟩)
    have z1 : (w.alloc (Obj.cells #[I64 (a + c), I64 b] 53)).cell? ⟨w.heap.size, 0, none⟩ = some (I64 (a + c)) := (Blk.new w _ _).cell 0
    have z2 : (w.alloc (Obj.cells #[I64 (a + c), I64 b] 53)).cell? ⟨w.heap.size, 1, none⟩ = some (I64 b) := (Blk.new w _ _).cell 1
    have hk6 := (Kp.of_grown hg6)
    have hml := HM.out.lt
    have y1 := (hk6.cell (p := ⟨w.heap.size, 0, none⟩) (by simp) (fun e => by injection e with e; simp at e; omega)).trans z1
    have y2 := (hk6.cell (p := ⟨w.heap.size, 1, none⟩) (by simp) (fun e => by injection e with e; simp at e; omega)).trans z2
    clear hm6 hg6 hk6 hml
    go_enter Tryd.func21, Tryd.ntmps21
    go_wp2_with fail
    refine (HLF.out _).mono ?_
    rintro e w1 ⟨rfl, rfl⟩
    go_wp2_with fail
    go_region_held3 (fun w' => w'.cell? ⟨w.heap.size, 0, none⟩ = some (I64 (a + c)) ∧ w'.cell? ⟨w.heap.size, 1, none⟩ = some (I64 b))
      (first | (exact ⟨y1, y2⟩) | go_keep)
      (first | (go_at_call 22; refine (HLF.out _).mono ?_; rintro e w8 ⟨rfl, rfl⟩))
    all_goals
      go_wp2_with fail
      go_ret
      exact ⟨rfl, HK.out.1, HK.out.2.1, HK.out.2.2⟩
  · rw [if_neg hp]
    obtain ⟨w6, hr6, hm6, hg6, _⟩ := run_upd (P := Tryd.prog) 51 3 53 Tryd.underlying51 Tryd.underlying3 (show MapI (w.alloc (Obj.cells #[I64 a, I64 (b + c)] 53)).drew m f from HM.out.kp ((Kp.refl (fun _ => False) w).alloc _).drew (fun h => h)) v (pairVl a (b + c))
    have HK := Lib.hid (show MapI w6 m (upd f v (pairVl a (b + c))) ∧ Fits w6 m (n + 1) ∧ Kp (· = m) w w6 from ⟨hm6, (HFt.out.kp ((Kp.refl (fun _ => False) w).alloc _).drew (fun h => h)).upd (by unfold maxLen; omega) HVb.out hr6, (((Kp.refl (· = m) w).alloc _).drew).grown hg6 (fun g e _ => by injection e with e; exact e.symm)⟩)
    have z1 : (w.alloc (Obj.cells #[I64 a, I64 (b + c)] 53)).cell? ⟨w.heap.size, 0, none⟩ = some (I64 a) := (Blk.new w _ _).cell 0
    have z2 : (w.alloc (Obj.cells #[I64 a, I64 (b + c)] 53)).cell? ⟨w.heap.size, 1, none⟩ = some (I64 (b + c)) := (Blk.new w _ _).cell 1
    have hk6 := (Kp.of_grown hg6)
    have hml := HM.out.lt
    have y1 := (hk6.cell (p := ⟨w.heap.size, 0, none⟩) (by simp) (fun e => by injection e with e; simp at e; omega)).trans z1
    have y2 := (hk6.cell (p := ⟨w.heap.size, 1, none⟩) (by simp) (fun e => by injection e with e; simp at e; omega)).trans z2
    clear hm6 hg6 hk6 hml
    go_enter Tryd.func21, Tryd.ntmps21
    go_wp2_with fail
    refine (HLF.out _).mono ?_
    rintro e w1 ⟨rfl, rfl⟩
    go_wp2_with fail
    go_region_held3 (fun w' => w'.cell? ⟨w.heap.size, 0, none⟩ = some (I64 a) ∧ w'.cell? ⟨w.heap.size, 1, none⟩ = some (I64 (b + c)))
      (first | (exact ⟨y1, y2⟩) | go_keep)
      (first | (go_at_call 22; refine (HLF.out _).mono ?_; rintro e w8 ⟨rfl, rfl⟩))
    all_goals
      go_wp2_with fail
      go_ret
      exact ⟨rfl, HK.out.1, HK.out.2.1, HK.out.2.2⟩
theorem MapI.ne_cell {w : World} {m : Nat} {f : Int → Option Value} (h : MapI w m f) {b o : Nat} {v : Value} (hc : w.cell? ⟨b, o, none⟩ = some v) : b ≠ m := by
  rintro rfl
  obtain ⟨es, clock, hb, _⟩ := h
  simp [World.cell?, hb] at hc
theorem Rd.kpm {α : Type} {enc : α → Value} {w w' : World} {m : Nat} {f : Int → Option Value} {A : Option Addr} {xs : List α} (h : Rd enc (· < w.heap.size) w A xs) (hm : MapI w m f) (hk : Kp (· = m) w w') : Rd enc (· < w'.heap.size) w' A xs := fun hn => by
  obtain ⟨b, off, e, hb, hc⟩ := h hn
  have hne := hm.ne_cell (hc 0 hn)
  exact ⟨b, off, e, Nat.lt_of_lt_of_le hb hk.size, fun j hj => (hk.cell (p := ⟨b, off + j, none⟩) hb hne).trans (hc j hj)⟩
def sumsM (z : List (Int × Int)) : Int → Option Value := fun v => if v ∈ varsZ (z.map (·.2)) then some (pairVl (cfZ z v) (cfZ z (-v))) else none
theorem cfZ_no {z : List (Int × Int)} {y : Int} (h : ∀ q ∈ z, q.2 ≠ y) : cfZ z y = 0 := by
  induction z with
  | nil => rfl
  | cons q t ih => simp only [cfZ]; rw [if_neg (h q (by simp)), ih (fun p hp => h p (by simp [hp]))]; rfl
theorem sumsM_at (z : List (Int × Int)) (v : Int) (hv : 0 ≤ v) : (sumsM z v).getD (pairVl 0 0) = pairVl (cfZ z v) (cfZ z (-v)) := by
  unfold sumsM
  by_cases h : v ∈ varsZ (z.map (·.2))
  · rw [if_pos h]; rfl
  · rw [if_neg h]
    have h0 : ∀ q ∈ z, q.2 ≠ v := fun q hq e => h (mem_varsZ.2 ⟨q.2, List.mem_map.2 ⟨q, hq, rfl⟩, by omega⟩)
    have h1 : ∀ q ∈ z, q.2 ≠ -v := fun q hq e => h (mem_varsZ.2 ⟨q.2, List.mem_map.2 ⟨q, hq, rfl⟩, by omega⟩)
    rw [cfZ_no h0, cfZ_no h1]; rfl
theorem cfZ_snoc1 (z : List (Int × Int)) (c x y : Int) : cfZ (z ++ [(c, x)]) y = cfZ z y + if x = y then c else 0 := by
  rw [cfZ_app]; simp only [cfZ]; omega
theorem sumsM_snoc (z : List (Int × Int)) (c x : Int) (hx : x ≠ 0) (hz : ∀ q ∈ z, q.2 ≠ 0) :
    sumsM (z ++ [(c, x)]) = upd (sumsM z) (x.natAbs : Int) (if 0 < x then pairVl (cfZ z (x.natAbs : Int) + c) (cfZ z (-(x.natAbs : Int))) else pairVl (cfZ z (x.natAbs : Int)) (cfZ z (-(x.natAbs : Int)) + c)) := by
  funext v
  unfold upd sumsM
  rw [List.map_append]
  have hin : v ∈ varsZ (z.map (·.2) ++ [(c, x)].map (·.2)) ↔ v = (x.natAbs : Int) ∨ v ∈ varsZ (z.map (·.2)) := by
    show v ∈ varsZ (z.map (·.2) ++ [x]) ↔ _
    rw [varsZ_snoc, mem_insV]
  by_cases h : v = (x.natAbs : Int)
  · rw [if_pos (hin.2 (.inl h)), if_pos h, cfZ_snoc1, cfZ_snoc1, h]
    rcases Int.lt_or_le 0 x with hp | hp
    · rw [if_pos hp, if_pos (show x = (x.natAbs : Int) by omega), if_neg (show ¬ x = -(x.natAbs : Int) by omega), Int.add_zero]
    · rw [if_neg (show ¬ 0 < x by omega), if_neg (show ¬ x = (x.natAbs : Int) by omega), if_pos (show x = -(x.natAbs : Int) by omega), Int.add_zero]
  · rw [if_neg h]
    by_cases h2 : v ∈ varsZ (z.map (·.2))
    · rw [if_pos (hin.2 (.inr h2)), if_pos h2, cfZ_snoc1, cfZ_snoc1]
      obtain ⟨y, hy, hyv⟩ := mem_varsZ.1 h2
      obtain ⟨q, hq, rfl⟩ := List.mem_map.1 hy
      have := hz q hq
      rw [if_neg (show ¬ x = v by omega), if_neg (show ¬ x = -v by omega), Int.add_zero, Int.add_zero]
    · rw [if_neg (fun e => (hin.1 e).elim h h2), if_neg h2]
theorem cfZ_bd (M : Int) (hM : 0 ≤ M) (x : Int) : ∀ z : List (Int × Int), (∀ q ∈ z, -M ≤ q.1 ∧ q.1 ≤ M) → -(M * z.length) ≤ cfZ z x ∧ cfZ z x ≤ M * z.length
  | [], _ => by simp [cfZ]
  | q :: t, h => by
    obtain ⟨a, b⟩ := cfZ_bd M hM x t (fun u hu => h u (by simp [hu]))
    obtain ⟨c, d⟩ := h q (by simp)
    have e : M * ((t.length + 1 : Nat) : Int) = M * t.length + M := by rw [Int.natCast_add, Int.mul_add]; simp
    simp only [cfZ, List.length_cons]
    rw [e]
    split <;> omega
set_option maxRecDepth 100000 in
set_option maxHeartbeats 1600000 in
theorem foldM_any (A L : Option Addr) (cA cL m : Nat) (l : LinV) (w : World) (h : LinAt w A L l) (hok : lcheck l 65536 = 0) (hm : MapI w m (fun _ => none)) (hft : Fits w m 0) :
    Calls Tryd.prog 20 #[linV A L cA cL l, .map (some m), .func (.func 21) #[] #[]] w fun e w' => e = .returned (.map (some m)) ∧ MapI w' m (sumsM (l.C.zip l.L)) ∧ Fits w' m l.L.length ∧ Kp (· = m) w w' := by
  obtain ⟨hrc, hrl, _, _⟩ := h
  obtain ⟨_, _, k1, _, k3, k4, k5⟩ := lcheck_ok hok
  have HRC := Lib.hid hrc
  have HRL := Lib.hid hrl
  have K3 := Lib.hid k3
  have K4 := Lib.hid k4
  have hle1 : l.C.length ≤ l.L.length := by omega
  have hle2 : l.L.length ≤ l.C.length := by omega
  have hml := hm.lt
  have HM := Lib.hid hm
  have HFt := Lib.hid hft
  clear hrc hrl k1 k3 k4 hok hm hft
  go_enter Tryd.func20, Tryd.ntmps20
  go_wp2_with fail
  have HBw := Lib.hid (below1 w (Obj.cells #[Value.slice A l.C.length cA, Value.slice L l.L.length cL, I64 l.B] 26))
  have HD1 := Lib.hid (Blk.new w 26 #[Value.slice A l.C.length cA, Value.slice L l.L.length cL, I64 l.B])
  have HM1 := Lib.hid (show MapI (w.alloc (Obj.cells #[Value.slice A l.C.length cA, Value.slice L l.L.length cL, I64 l.B] 26)) m (fun _ => none) ∧ Fits (w.alloc (Obj.cells #[Value.slice A l.C.length cA, Value.slice L l.L.length cL, I64 l.B] 26)) m 0 from ⟨HM.out.kp ((Kp.refl (fun _ => False) w).alloc _) (fun h => h), HFt.out.kp ((Kp.refl (fun _ => False) w).alloc _) (fun h => h)⟩)
  have HK0 := Lib.hid (show Kp (· = m) w (w.alloc (Obj.cells #[Value.slice A l.C.length cA, Value.slice L l.L.length cL, I64 l.B] 26)) from (Kp.refl _ w).alloc _)
  generalize hw1 : w.alloc (Obj.cells #[Value.slice A l.C.length cA, Value.slice L l.L.length cL, I64 l.B] 26) = w1 at HBw HD1 HM1 HK0 ⊢
  clear hw1
  go_loopw [1, 7, 8, 12] (fun av _ _ iv wr => ∃ i : Nat, iv = .int .i64 i ∧ i ≤ l.L.length ∧ av = .map (some m) ∧ MapI wr m (sumsM ((l.C.zip l.L).take i)) ∧ Fits wr m i ∧ Kp (· = m) w1 wr) (fun _ _ _ iv _ => l.L.length - (intOf iv).toNat)
  case atStart => exact ⟨0, rfl, Nat.zero_le _, rfl, HM1.out.1, HM1.out.2, Kp.refl _ _⟩
  case round =>
    obtain ⟨i, rfl, hi, rfl, hmi, hfi, hkp⟩ := hrel
    have HMi := Lib.hid hmi
    have HFi := Lib.hid hfi
    have HKp := Lib.hid hkp
    clear hmi hkp hfi
    by_cases hlt : i < l.L.length
    · have hlt2 : i < l.C.length := by omega
      obtain ⟨ab, ao, eA, _, ca⟩ := ((HRC.out.up HBw.out).kpm HM1.out.1 HKp.out).at_ hlt2
      obtain ⟨bb, bo, eL, _, cb⟩ := ((HRL.out.up HBw.out).kpm HM1.out.1 HKp.out).at_ hlt
      have hz : i < (l.C.zip l.L).length := by rw [List.length_zip]; omega
      have hcx := K3.out l.C[i] (List.getElem_mem hlt2)
      obtain ⟨hx0, hx1, hx2⟩ := K4.out l.L[i] (List.getElem_mem hlt)
      have htk : (l.C.zip l.L).take (i + 1) = (l.C.zip l.L).take i ++ [(l.C[i], l.L[i])] := by rw [List.take_succ_eq_append_getElem hz, List.getElem_zip]
      have hsn := sumsM_snoc ((l.C.zip l.L).take i) l.C[i] l.L[i] hx0 (fun q hq => (K4.out q.2 (List.of_mem_zip (List.mem_of_mem_take hq)).2).1)
      rw [← htk] at hsn
      have hat := sumsM_at ((l.C.zip l.L).take i) (l.L[i].natAbs : Int) (by omega)
      have hlk : ((l.C.zip l.L).take i).length ≤ 4096 := by rw [List.length_take, List.length_zip]; omega
      have hb1 := cfZ_bd 1099511627776 (by decide) (l.L[i].natAbs : Int) ((l.C.zip l.L).take i) (fun q hq => K3.out q.1 (List.of_mem_zip (List.mem_of_mem_take hq)).1)
      have hb2 := cfZ_bd 1099511627776 (by decide) (-(l.L[i].natAbs : Int)) ((l.C.zip l.L).take i) (fun q hq => K3.out q.1 (List.of_mem_zip (List.mem_of_mem_take hq)).1)
      have c0 : wr.cell? ⟨w.heap.size, 0, none⟩ = some (.slice A l.C.length cA) := (HKp.out.cell (p := ⟨w.heap.size, 0, none⟩) HD1.out.lt (by simp; omega)).trans (HD1.out.cell 0)
      have hst := norm1_any m i (sumsM ((l.C.zip l.L).take i)) l.C[i] l.L[i] _ _ wr HMi.out HFi.out (by omega) hat (by omega) (by omega) (by omega) (by omega) hcx
      rw [← hsn] at hst
      subst eA eL
      generalize l.C[i] = c at ca hst
      generalize l.L[i] = x at cb hst
      have HSt := Lib.hid hst
      clear hst hsn hat hb1 hb2 htk hlk hcx hx0 hx1 hx2 hz
      go_wp2_with fail
      refine HSt.out.mono ?_
      rintro e w3 ⟨rfl, m3, f3, k3⟩
      have K3' := Lib.hid (And.intro m3 (And.intro f3 (HKp.out.one_trans k3)))
      clear m3 k3 f3
      go_wp2_with fail
      go_roundw
      case rel => exact ⟨i + 1, by go_num, by omega, rfl, K3'.out.1, K3'.out.2.1, K3'.out.2.2⟩
      case measure => simp [intOf]; omega
    · obtain rfl : i = l.L.length := by omega
      have HT := Lib.hid (show (l.C.zip l.L).take l.L.length = l.C.zip l.L from List.take_of_length_le (by rw [List.length_zip]; omega))
      go_wp2_with fail
      go_ret
      exact ⟨rfl, by rw [← HT.out]; exact HMi.out, HFi.out, HK0.out.one_trans HKp.out⟩
end Go.Proofs.YtkkapbnopmmmjaaDoor
