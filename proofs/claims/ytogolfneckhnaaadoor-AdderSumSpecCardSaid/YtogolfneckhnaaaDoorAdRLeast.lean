/- The contract of the reference's Least: it returns what the plain function leastP says. -/
import Derived.Test.YtogolfneckhnaaaDoorAdLeast
namespace Go.Proofs.YtogolfneckhnaaaDoor
open Go.RowKit Go.Shelf

theorem clTo_low (bits : List Int) (K t i : Nat) (h : i ≤ t) : clTo bits K t i = [] := by
  unfold clTo
  rw [List.filter_eq_nil_iff.2 (fun j hj => by
    have := List.mem_range.1 hj
    have e1 : ¬ j = t := by omega
    have e2 : ¬ t < j := by omega
    simp [lcond, e1, e2])]
  rfl
theorem leastTo_60 (bits : List Int) (K : Nat) (h : K ≤ 4503599627370496) : leastTo bits K 64 = leastTo bits K 60 :=
  leastTo_skip bits K 60 64 (by omega) (fun k hk _ => Nat.testBit_lt_two_pow (Nat.lt_of_le_of_lt h (Nat.lt_of_lt_of_le (by decide : 4503599627370496 < 2 ^ 60) (Nat.pow_le_pow_right (by decide) hk))))
theorem any_take_false {l : List Int} {k : Nat} {x : Int} (h : l.take (k + 1) = l.take k ++ [x]) (h1 : (l.take k).any oddB = false) : (oddB x = false → (l.take (k + 1)).any oddB = false) ∧ (oddB x = true → l.any oddB = true) := by
  refine ⟨fun hx => by rw [h, List.any_append, h1]; simp [hx], fun hx => List.any_eq_true.2 ⟨x, List.mem_of_mem_take (i := k + 1) (by rw [h]; simp), hx⟩⟩
theorem oddB_or (x : Int) : oddB x = true ↔ x < -65536 ∨ 65536 < x := by simp [oddB]

set_option maxRecDepth 100000 in
set_option maxHeartbeats 3200000 in
theorem rleast_any (A : Option Addr) (cA : Nat) (l : List Int) (k : Int) (w : World) (ha : Rd I64 (· < w.heap.size) w A l) (hll : l.length ≤ 1000000000) :
    Calls Tryd.prog 18 #[.slice A l.length cA, I64 k] w (LeastPost w (leastP l k)) := by
  obtain ⟨i0, hi, hz0, hz1, hz2⟩ := info_parts info_int
  have HI := Lib.hid (And.intro hi (And.intro hz0 (And.intro hz1 hz2)))
  obtain ⟨j0, hj, hy0, hy1, hy2⟩ := info_parts info_ints
  have HJ := Lib.hid (And.intro hj (And.intro hy0 (And.intro hy1 hy2)))
  have HA := Lib.hid ha
  clear ha hi hz0 hz1 hz2 hj hy0 hy1 hy2
  by_cases hk0 : k < 0
  · have hr := Lib.hid (show leastP l k = .err 1 by rw [leastP, if_pos (.inl hk0)])
    go_enter Tryd.func18, Tryd.ntmps18
    go_wp2_with fail
    go_ret2
    rw [hr.out]; exact ⟨rfl, Below.refl _ _⟩
  · by_cases hk1 : 4503599627370496 < k
    · have hr := Lib.hid (show leastP l k = .err 1 by rw [leastP, if_pos (.inr (.inl hk1))])
      go_enter Tryd.func18, Tryd.ntmps18
      go_wp2_with fail
      go_ret2
      rw [hr.out]; exact ⟨rfl, Below.refl _ _⟩
    · have d1 : decide (k < 0) = false := by simp; omega
      have d2 : decide (4503599627370496 < k) = false := by simp; omega
      go_enter Tryd.func18, Tryd.ntmps18
      go_wp2_with fail
      go_loop [6] (fun iv => ∃ i : Nat, iv = .int .i64 i ∧ i ≤ l.length ∧ (l.take i).any oddB = false) (fun iv => l.length - (intOf iv).toNat)
      case atStart => exact ⟨0, rfl, Nat.zero_le _, rfl⟩
      case round =>
        obtain ⟨i, rfl, hi, hall⟩ := hrel
        have HAll := Lib.hid hall
        clear hall
        by_cases hlt : i < l.length
        · obtain ⟨ab, ao, rfl, _, ca⟩ := HA.out.at_ hlt
          have htk := List.take_succ_eq_append_getElem hlt
          generalize l[i] = x at ca htk
          obtain ⟨hf1, hf2⟩ := any_take_false htk HAll.out
          have HF1 := Lib.hid hf1
          have HF2 := Lib.hid hf2
          clear htk hf1 hf2
          by_cases h1 : x < -65536
          · have hr := Lib.hid (show leastP l k = .err 1 by rw [leastP, if_pos (.inr (.inr (HF2.out ((oddB_or x).2 (.inl h1)))))])
            go_wp2_with fail
            go_ret2
            rw [hr.out]; exact ⟨rfl, Below.refl _ _⟩
          · by_cases h2 : 65536 < x
            · have hr := Lib.hid (show leastP l k = .err 1 by rw [leastP, if_pos (.inr (.inr (HF2.out ((oddB_or x).2 (.inr h2)))))])
              go_wp2_with fail
              go_ret2
              rw [hr.out]; exact ⟨rfl, Below.refl _ _⟩
            · have hno : oddB x = false := by simp [oddB]; omega
              have HNo := Lib.hid (HF1.out hno)
              clear hno
              go_wp2_with fail
              go_round
              case rel => exact ⟨i + 1, by go_num, by omega, HNo.out⟩
              case measure => simp [intOf]; omega
        · obtain rfl : i = l.length := by omega
          have hany : l.any oddB = false := by have := HAll.out; rwa [List.take_of_length_le (by omega)] at this
          by_cases hbig : 60 < l.length
          · have hr := Lib.hid (show leastP l k = .err 2 by rw [leastP, if_neg (by rw [hany]; simp; omega), if_pos hbig])
            clear hany
            go_wp2_with fail
            go_ret2
            rw [hr.out]; exact ⟨rfl, Below.refl _ _⟩
          · obtain ⟨K, rfl⟩ := Int.eq_ofNat_of_zero_le (show 0 ≤ k by omega)
            have hr := Lib.hid (show leastP l (K : Int) = .ok (leastTo l K 60) by rw [leastP, if_neg (by rw [hany]; simp; omega), if_neg hbig, Int.toNat_natCast, leastTo_60 l K (by omega)])
            have d3 : decide (60 < (l.length : Int)) = false := by simp; omega
            clear hany
            go_wp2_with fail
            clear d1 d2 d3
            go_loopw [7, 8] (fun ov iv wr => ∃ t : Nat, iv = .int .i64 t ∧ t ≤ 60 ∧ Bag w.heap.size wr ov (leastTo l K t) ∧ Below w.heap.size w wr) (fun _ iv _ => 60 - (intOf iv).toNat)
            case atStart => exact ⟨0, rfl, by omega, Bag.nil _ _, Below.refl _ _⟩
            case round =>
              obtain ⟨t, rfl, ht, hbag, hbel⟩ := hrel
              have HBag := Lib.hid hbag
              have HBel := Lib.hid hbel
              clear hbag hbel
              by_cases ht60 : t < 60
              · have hbt := bit_test0 K t (by omega)
                have hsu := leastTo_succ l K t
                by_cases hbit : K.testBit t = true
                · rw [if_pos hbit] at hsu
                  rw [hbit] at hbt
                  have hbt' : (bits BinOp.and IntKind.i64 ((K : Int) / 2 ^ t) 1 == 0) = false := hbt
                  have HSu := Lib.hid hsu
                  clear hsu hbt hbit
                  have hll2 := leastTo_len l K t
                  -- BODY
                  by_cases htl : t < l.length
                  · obtain ⟨ab, ao, rfl, _, ca⟩ := (show Rd I64 (· < w.heap.size) wr A l from HA.out.below HBel.out).at_ htl
                    have hst := clTo_succ l K t t
                    rw [clTo_low l K t t (Nat.le_refl _), List.nil_append] at hst
                    have hgd : l.getD t 0 = l[t] := by rw [List.getD_eq_getElem?_getD, List.getElem?_eq_getElem htl]; rfl
                    have hcd : lcond K l t t = lcv l[t] t t K := by unfold lcond lcv; rw [hgd]
                    rw [hgd, hcd] at hst
                    have hmin : min (t + 1) l.length = t + 1 := by omega
                    generalize l[t] = x at ca hst
                    by_cases hx0 : x = 0
                    · have q1 : (x != 0) = false := by simpa using hx0
                      rw [if_neg (by simp [lcv, hx0])] at hst
                      have HS0 := Lib.hid (show Own wr 3 (.slice none 0 0) ((clTo l K t (min (t + 1) l.length)).map I64) ∧ (∀ g, (Value.slice none 0 0).ownBlock = some g → wr.heap.size ≤ g) ∧ Below wr.heap.size wr wr from ⟨by rw [hmin, hst]; exact Own.nil _ _, fun g h => by simp [Value.ownBlock] at h, Below.refl _ _⟩)
                      clear hx0 hst hgd hcd hmin
                      go_wp2_with fail
                      obtain ⟨wo, rfl⟩ : ∃ wo : World, wo = wr := ⟨_, rfl⟩
                      go_loopw [9, 10] (fun cvv jv wr => ∃ j : Nat, jv = .int .i64 j ∧ t + 1 ≤ j ∧ j ≤ 61 ∧ Own wr 3 cvv ((clTo l K t (min j l.length)).map I64) ∧ (∀ g, cvv.ownBlock = some g → wo.heap.size ≤ g) ∧ Below wo.heap.size wo wr) (fun _ jv _ => 100 - (intOf jv).toNat)
                      case atStart => exact ⟨t + 1, by go_num, Nat.le_refl _, by omega, HS0.out.1, HS0.out.2.1, HS0.out.2.2⟩
                      case round =>
                        obtain ⟨j, rfl, hj1, hj2, hoc, hgc, hbc⟩ := hrel
                        have HOc := Lib.hid hoc
                        have HGc := Lib.hid hgc
                        have HBc := Lib.hid hbc
                        clear hoc hgc hbc
                        by_cases hlt : j < l.length
                        · obtain ⟨ab', ao', eA, _, ca⟩ := (show Rd I64 (· < w.heap.size) wr _ l from (HA.out.below HBel.out).below (belowle HBel.out HBc.out)).at_ hlt
                          first | subst eA | cases eA
                          have hcl := clTo_len l K t j
                          have hmin : min j l.length = j := by omega
                          have hmin' : min (j + 1) l.length = j + 1 := by omega
                          have hsu := clTo_succ l K t j
                          have hgd : l.getD j 0 = l[j] := by rw [List.getD_eq_getElem?_getD, List.getElem?_eq_getElem hlt]; rfl
                          have hcd : lcond K l t j = lcv l[j] j t K := by unfold lcond lcv; rw [hgd]
                          rw [hgd] at hsu
                          rw [hmin] at HOc
                          generalize l[j] = x at ca hsu hcd
                          have HLc := Lib.hid (show ((clTo l K t j).map I64).length = (clTo l K t j).length by simp)
                          have HSj := Lib.hid hsu
                          have HCd := Lib.hid hcd
                          have HMin := Lib.hid hmin'
                          clear hsu hcd hgd hmin hmin'
                          have hbj := bit_test0 K j (by omega)
                          by_cases h4 : K.testBit j = true
                          · rw [h4] at hbj
                            have q4 : (bits BinOp.and IntKind.i64 ((K : Int) / 2 ^ j) 1 == 0) = false := hbj
                            have HCv := Lib.hid (show ¬ lcv x j t K = true by simp [lcv, h4]; omega)
                            clear h4 hbj
                            go_wp2_with fail
                            go_roundw
                            case rel => exact ⟨j + 1, by go_num, by omega, by omega, by rw [HMin.out, HSj.out, if_neg (by rw [HCd.out]; exact HCv.out), List.append_nil]; exact HOc.out, HGc.out, HBc.out⟩
                            case measure => simp [intOf]; omega
                          · have q4 : (bits BinOp.and IntKind.i64 ((K : Int) / 2 ^ j) 1 == 0) = true := by rw [hbj]; simpa using h4
                            have H4 := Lib.hid h4
                            clear h4 hbj
                            by_cases h1 : x = 0
                            · have q1 : (x != 0) = false := by simpa using h1
                              have HCv := Lib.hid (show ¬ lcv x j t K = true by simp [lcv, h1])
                              clear h1
                              go_wp2_with fail
                              go_roundw
                              case rel => exact ⟨j + 1, by go_num, by omega, by omega, by rw [HMin.out, HSj.out, if_neg (by rw [HCd.out]; exact HCv.out), List.append_nil]; exact HOc.out, HGc.out, HBc.out⟩
                              case measure => simp [intOf]; omega
                            · have q1 : (x != 0) = true := by simpa using h1
                              have h3 : t < j := by omega
                              have HCv := Lib.hid (show lcv x j t K = true by simp [lcv, h1, H4.out, h3])
                              clear h1
                              go_wp2_with (at_builtin; refine wpList_push _ rfl (.tmp 87) (.tmp 92) 22 rfl 3 i0 (.int .i64 0) 8 Tryd.underlying22 HI.out.1 HI.out.2.1 HI.out.2.2.1 HI.out.2.2.2 rfl _ ((clTo l K t j).map I64) _ HLc.out rfl (HOc.out.alloc _) ⟨wr.heap.size, 0, none⟩ 1 (I64 x) rfl ?c1pa rfl ?c2pa ?c3pa ?_)
                              case c1pa => simp
                              case c2pa => unfold maxLen; omega
                              case c3pa => omega
                              intro g2 o2 cp2 w5 hown5 hg5 hat5
                              have hk5 := least_push (o2 := o2) (n := (clTo l K t j).length + 1) (cp2 := cp2) HGc.out HBc.out hg5 hat5
                              have HOw5 := Lib.hid hown5
                              have HK5 := Lib.hid hk5
                              clear hown5 hg5 hat5 hk5
                              go_wp2_with fail
                              go_roundw
                              case rel => first | exact ⟨j + 1, by go_num, by omega, by omega, by rw [HMin.out, HSj.out, if_pos (by rw [HCd.out]; exact HCv.out), List.map_append]; exact HOw5.out, HK5.out.1, HK5.out.2⟩ | (rw [show decide ((t : Int) < 60) = true by simp; omega]; (repeat apply Exists.intro); refine ⟨?_, rfl⟩; exact ⟨j + 1, by go_num, by omega, by omega, by rw [HMin.out, HSj.out, if_pos (by rw [HCd.out]; exact HCv.out), List.map_append]; exact HOw5.out, HK5.out.1, HK5.out.2⟩)
                              case measure => simp [intOf]; omega
                        · have hmin : min j l.length = l.length := by omega
                          rw [hmin] at HOc
                          clear hmin
                          obtain ⟨vs, b1, b2, b3, b4⟩ := HBag.out.below HBc.out
                          have hcw : Cl (fun b => w.heap.size ≤ b) wr _ (clTo l K t l.length) := own_cl' HOc.out (fun g hg => Nat.le_trans HBel.out.size (HGc.out g hg))
                          have HCw := Lib.hid hcw
                          obtain ⟨cA', cc', ecv, _, _⟩ := hcw
                          subst ecv
                          have HV := Lib.hid (And.intro b1 (And.intro b2 (And.intro b3 b4)))
                          clear b1 b2 b3 b4
                          go_wp2_with (at_builtin; refine wpList_push _ rfl (.tmp 94) (.tmp 96) 24 rfl 22 j0 (.slice none 0 0) 24 Tryd.underlying24 HJ.out.1 HJ.out.2.1 HJ.out.2.2.1 HJ.out.2.2.2 rfl _ vs (leastTo l K t).length HV.out.2.2.1 rfl (HV.out.1.alloc _) ⟨wr.heap.size, 0, none⟩ 1 (.slice cA' (clTo l K t l.length).length cc') rfl ?c1qa rfl ?c2qa ?c3qa ?_)
                          case c1qa => simp
                          case c2qa => unfold maxLen; omega
                          case c3qa => omega
                          intro g2 o2 cp2 w5 hown5 hg5 hat5
                          have hpu := Bag.push (Nat.le_trans HBel.out.size HBc.out.size) HV.out.1 HV.out.2.1 HV.out.2.2.1 HV.out.2.2.2 HCw.out hown5 hg5 hat5
                          rw [← HSu.out] at hpu
                          have HPu := Lib.hid hpu
                          clear hown5 hg5 hat5 hpu
                          go_wp2_with fail
                          go_roundw
                          case rel => exact ⟨t + 1, by go_num, by omega, HPu.out.1, HBel.out.trans ((belowle HBel.out HBc.out).trans HPu.out.2)⟩
                          case measure => simp [intOf]; omega
                    · have q1 : (x != 0) = true := by simpa using hx0
                      rw [if_pos (by simp [lcv, hx0])] at hst
                      have HSt := Lib.hid hst
                      have HMi := Lib.hid hmin
                      clear hx0 hst hgd hcd hmin
                      go_wp2_with (at_builtin; refine wpList_push _ rfl (.tmp 59) (.tmp 64) 22 rfl 3 i0 (.int .i64 0) 8 Tryd.underlying22 HI.out.1 HI.out.2.1 HI.out.2.2.1 HI.out.2.2.2 rfl _ [] 0 rfl rfl ((Own.nil wr _).alloc _) ⟨wr.heap.size, 0, none⟩ 1 (I64 x) rfl ?c1s rfl ?c2s ?c3s ?_)
                      case c1s => simp
                      case c2s => unfold maxLen; omega
                      case c3s => omega
                      intro g2 o2 cp2 w5 hown5 hg5 hat5
                      have hk5 := least_push (wo := wr) (wr := wr) (o2 := o2) (n := 0 + 1) (cp2 := cp2) (fun g h => by simp [Value.ownBlock] at h) (Below.refl _ _) hg5 hat5
                      have HS0 := Lib.hid (show Own w5 3 (.slice (some ⟨g2, o2, none⟩) (0 + 1) cp2) ((clTo l K t (min (t + 1) l.length)).map I64) ∧ _ ∧ _ from ⟨by rw [HMi.out, HSt.out]; exact hown5, hk5.1, hk5.2⟩)
                      clear hown5 hg5 hat5 hk5
                      go_wp2_with fail
                      obtain ⟨wo, rfl⟩ : ∃ wo : World, wo = wr := ⟨_, rfl⟩
                      go_loopw [9, 10] (fun cvv jv wr => ∃ j : Nat, jv = .int .i64 j ∧ t + 1 ≤ j ∧ j ≤ 61 ∧ Own wr 3 cvv ((clTo l K t (min j l.length)).map I64) ∧ (∀ g, cvv.ownBlock = some g → wo.heap.size ≤ g) ∧ Below wo.heap.size wo wr) (fun _ jv _ => 100 - (intOf jv).toNat)
                      case atStart => exact ⟨t + 1, by go_num, Nat.le_refl _, by omega, HS0.out.1, HS0.out.2.1, HS0.out.2.2⟩
                      case round =>
                        obtain ⟨j, rfl, hj1, hj2, hoc, hgc, hbc⟩ := hrel
                        have HOc := Lib.hid hoc
                        have HGc := Lib.hid hgc
                        have HBc := Lib.hid hbc
                        clear hoc hgc hbc
                        by_cases hlt : j < l.length
                        · obtain ⟨ab', ao', eA, _, ca⟩ := (show Rd I64 (· < w.heap.size) wr _ l from (HA.out.below HBel.out).below (belowle HBel.out HBc.out)).at_ hlt
                          first | subst eA | cases eA
                          have hcl := clTo_len l K t j
                          have hmin : min j l.length = j := by omega
                          have hmin' : min (j + 1) l.length = j + 1 := by omega
                          have hsu := clTo_succ l K t j
                          have hgd : l.getD j 0 = l[j] := by rw [List.getD_eq_getElem?_getD, List.getElem?_eq_getElem hlt]; rfl
                          have hcd : lcond K l t j = lcv l[j] j t K := by unfold lcond lcv; rw [hgd]
                          rw [hgd] at hsu
                          rw [hmin] at HOc
                          generalize l[j] = x at ca hsu hcd
                          have HLc := Lib.hid (show ((clTo l K t j).map I64).length = (clTo l K t j).length by simp)
                          have HSj := Lib.hid hsu
                          have HCd := Lib.hid hcd
                          have HMin := Lib.hid hmin'
                          clear hsu hcd hgd hmin hmin'
                          have hbj := bit_test0 K j (by omega)
                          by_cases h4 : K.testBit j = true
                          · rw [h4] at hbj
                            have q4 : (bits BinOp.and IntKind.i64 ((K : Int) / 2 ^ j) 1 == 0) = false := hbj
                            have HCv := Lib.hid (show ¬ lcv x j t K = true by simp [lcv, h4]; omega)
                            clear h4 hbj
                            go_wp2_with fail
                            go_roundw
                            case rel => exact ⟨j + 1, by go_num, by omega, by omega, by rw [HMin.out, HSj.out, if_neg (by rw [HCd.out]; exact HCv.out), List.append_nil]; exact HOc.out, HGc.out, HBc.out⟩
                            case measure => simp [intOf]; omega
                          · have q4 : (bits BinOp.and IntKind.i64 ((K : Int) / 2 ^ j) 1 == 0) = true := by rw [hbj]; simpa using h4
                            have H4 := Lib.hid h4
                            clear h4 hbj
                            by_cases h1 : x = 0
                            · have q1 : (x != 0) = false := by simpa using h1
                              have HCv := Lib.hid (show ¬ lcv x j t K = true by simp [lcv, h1])
                              clear h1
                              go_wp2_with fail
                              go_roundw
                              case rel => exact ⟨j + 1, by go_num, by omega, by omega, by rw [HMin.out, HSj.out, if_neg (by rw [HCd.out]; exact HCv.out), List.append_nil]; exact HOc.out, HGc.out, HBc.out⟩
                              case measure => simp [intOf]; omega
                            · have q1 : (x != 0) = true := by simpa using h1
                              have h3 : t < j := by omega
                              have HCv := Lib.hid (show lcv x j t K = true by simp [lcv, h1, H4.out, h3])
                              clear h1
                              go_wp2_with (at_builtin; refine wpList_push _ rfl (.tmp 87) (.tmp 92) 22 rfl 3 i0 (.int .i64 0) 8 Tryd.underlying22 HI.out.1 HI.out.2.1 HI.out.2.2.1 HI.out.2.2.2 rfl _ ((clTo l K t j).map I64) _ HLc.out rfl (HOc.out.alloc _) ⟨wr.heap.size, 0, none⟩ 1 (I64 x) rfl ?c1pb rfl ?c2pb ?c3pb ?_)
                              case c1pb => simp
                              case c2pb => unfold maxLen; omega
                              case c3pb => omega
                              intro g2 o2 cp2 w5 hown5 hg5 hat5
                              have hk5 := least_push (o2 := o2) (n := (clTo l K t j).length + 1) (cp2 := cp2) HGc.out HBc.out hg5 hat5
                              have HOw5 := Lib.hid hown5
                              have HK5 := Lib.hid hk5
                              clear hown5 hg5 hat5 hk5
                              go_wp2_with fail
                              go_roundw
                              case rel => first | exact ⟨j + 1, by go_num, by omega, by omega, by rw [HMin.out, HSj.out, if_pos (by rw [HCd.out]; exact HCv.out), List.map_append]; exact HOw5.out, HK5.out.1, HK5.out.2⟩ | (rw [show decide ((t : Int) < 60) = true by simp; omega]; (repeat apply Exists.intro); refine ⟨?_, rfl⟩; exact ⟨j + 1, by go_num, by omega, by omega, by rw [HMin.out, HSj.out, if_pos (by rw [HCd.out]; exact HCv.out), List.map_append]; exact HOw5.out, HK5.out.1, HK5.out.2⟩)
                              case measure => simp [intOf]; omega
                        · have hmin : min j l.length = l.length := by omega
                          rw [hmin] at HOc
                          clear hmin
                          obtain ⟨vs, b1, b2, b3, b4⟩ := HBag.out.below HBc.out
                          have hcw : Cl (fun b => w.heap.size ≤ b) wr _ (clTo l K t l.length) := own_cl' HOc.out (fun g hg => Nat.le_trans HBel.out.size (HGc.out g hg))
                          have HCw := Lib.hid hcw
                          obtain ⟨cA', cc', ecv, _, _⟩ := hcw
                          subst ecv
                          have HV := Lib.hid (And.intro b1 (And.intro b2 (And.intro b3 b4)))
                          clear b1 b2 b3 b4
                          go_wp2_with (at_builtin; refine wpList_push _ rfl (.tmp 94) (.tmp 96) 24 rfl 22 j0 (.slice none 0 0) 24 Tryd.underlying24 HJ.out.1 HJ.out.2.1 HJ.out.2.2.1 HJ.out.2.2.2 rfl _ vs (leastTo l K t).length HV.out.2.2.1 rfl (HV.out.1.alloc _) ⟨wr.heap.size, 0, none⟩ 1 (.slice cA' (clTo l K t l.length).length cc') rfl ?c1qb rfl ?c2qb ?c3qb ?_)
                          case c1qb => simp
                          case c2qb => unfold maxLen; omega
                          case c3qb => omega
                          intro g2 o2 cp2 w5 hown5 hg5 hat5
                          have hpu := Bag.push (Nat.le_trans HBel.out.size HBc.out.size) HV.out.1 HV.out.2.1 HV.out.2.2.1 HV.out.2.2.2 HCw.out hown5 hg5 hat5
                          rw [← HSu.out] at hpu
                          have HPu := Lib.hid hpu
                          clear hown5 hg5 hat5 hpu
                          go_wp2_with fail
                          go_roundw
                          case rel => exact ⟨t + 1, by go_num, by omega, HPu.out.1, HBel.out.trans ((belowle HBel.out HBc.out).trans HPu.out.2)⟩
                          case measure => simp [intOf]; omega
                  · have hmin : min (t + 1) l.length = l.length := by omega
                    have HS0 := Lib.hid (show Own wr 3 (.slice none 0 0) ((clTo l K t (min (t + 1) l.length)).map I64) ∧ (∀ g, (Value.slice none 0 0).ownBlock = some g → wr.heap.size ≤ g) ∧ Below wr.heap.size wr wr from ⟨by rw [hmin, clTo_low l K t _ (by omega)]; exact Own.nil _ _, fun g h => by simp [Value.ownBlock] at h, Below.refl _ _⟩)
                    clear hmin
                    go_wp2_with fail
                    obtain ⟨wo, rfl⟩ : ∃ wo : World, wo = wr := ⟨_, rfl⟩
                    go_loopw [9, 10] (fun cvv jv wr => ∃ j : Nat, jv = .int .i64 j ∧ t + 1 ≤ j ∧ j ≤ 61 ∧ Own wr 3 cvv ((clTo l K t (min j l.length)).map I64) ∧ (∀ g, cvv.ownBlock = some g → wo.heap.size ≤ g) ∧ Below wo.heap.size wo wr) (fun _ jv _ => 100 - (intOf jv).toNat)
                    case atStart => exact ⟨t + 1, by go_num, Nat.le_refl _, by omega, HS0.out.1, HS0.out.2.1, HS0.out.2.2⟩
                    case round =>
                      obtain ⟨j, rfl, hj1, hj2, hoc, hgc, hbc⟩ := hrel
                      have HOc := Lib.hid hoc
                      have HGc := Lib.hid hgc
                      have HBc := Lib.hid hbc
                      clear hoc hgc hbc
                      by_cases hlt : j < l.length
                      · exfalso; omega
                      · have hmin : min j l.length = l.length := by omega
                        rw [hmin] at HOc
                        clear hmin
                        obtain ⟨vs, b1, b2, b3, b4⟩ := HBag.out.below HBc.out
                        have hcw : Cl (fun b => w.heap.size ≤ b) wr _ (clTo l K t l.length) := own_cl' HOc.out (fun g hg => Nat.le_trans HBel.out.size (HGc.out g hg))
                        have HCw := Lib.hid hcw
                        obtain ⟨cA', cc', ecv, _, _⟩ := hcw
                        subst ecv
                        have HV := Lib.hid (And.intro b1 (And.intro b2 (And.intro b3 b4)))
                        clear b1 b2 b3 b4
                        go_wp2_with (at_builtin; refine wpList_push _ rfl (.tmp 94) (.tmp 96) 24 rfl 22 j0 (.slice none 0 0) 24 Tryd.underlying24 HJ.out.1 HJ.out.2.1 HJ.out.2.2.1 HJ.out.2.2.2 rfl _ vs (leastTo l K t).length HV.out.2.2.1 rfl (HV.out.1.alloc _) ⟨wr.heap.size, 0, none⟩ 1 (.slice cA' (clTo l K t l.length).length cc') rfl ?c1qc rfl ?c2qc ?c3qc ?_)
                        case c1qc => simp
                        case c2qc => unfold maxLen; omega
                        case c3qc => omega
                        intro g2 o2 cp2 w5 hown5 hg5 hat5
                        have hpu := Bag.push (Nat.le_trans HBel.out.size HBc.out.size) HV.out.1 HV.out.2.1 HV.out.2.2.1 HV.out.2.2.2 HCw.out hown5 hg5 hat5
                        rw [← HSu.out] at hpu
                        have HPu := Lib.hid hpu
                        clear hown5 hg5 hat5 hpu
                        go_wp2_with fail
                        go_roundw
                        case rel => exact ⟨t + 1, by go_num, by omega, HPu.out.1, HBel.out.trans ((belowle HBel.out HBc.out).trans HPu.out.2)⟩
                        case measure => simp [intOf]; omega
                  -- END BODY
                · rw [if_neg hbit, List.append_nil] at hsu
                  have hbt' : (bits BinOp.and IntKind.i64 ((K : Int) / 2 ^ t) 1 == 0) = true := by rw [hbt]; simpa using hbit
                  have HSu := Lib.hid hsu
                  clear hsu hbt hbit
                  go_wp2_with fail
                  go_roundw
                  case rel => exact ⟨t + 1, by go_num, by omega, by rw [HSu.out]; exact HBag.out, HBel.out⟩
                  case measure => simp [intOf]; omega
              · obtain rfl : t = 60 := by omega
                go_wp2_with fail
                go_ret2
                rw [hr.out]
                obtain ⟨C, cC, e1, e2, e3⟩ := HBag.out.rdl
                subst e1
                exact ⟨C, cC, rfl, e2, e3, HBel.out⟩
end Go.Proofs.YtogolfneckhnaaaDoor
