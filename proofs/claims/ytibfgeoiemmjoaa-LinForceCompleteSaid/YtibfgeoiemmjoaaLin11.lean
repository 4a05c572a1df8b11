/- Contract of Force. -/
import Derived.Test.YtibfgeoiemmjoaaLin10
import Derived.Test.YtibfgeoiemmjoaaLinP5
namespace Go.Proofs.Ytibfgeoiemmjoaa
open Go.RowKit Go.Shelf

section
variable {P : Program} {w : World} {m : Nat} {f : Int → Option Value}
theorem run_look2 (t kt et : TypeId) (z : Value) (ht : P.underlying t = some (.map kt et)) (hkt : P.underlying kt = some (.int .i64)) (hz : ∀ w : World, (zeroValue et).run P w = .ok z w) (h : MapI w m f) (k : Int) :
    (Instr.lookup t (.map (some m)) (.int .i64 k) true).run P w = .ok (.tuple #[(f k).getD z, .bool (f k).isSome]) w := by
  obtain ⟨es, clock, hb, hk, hf⟩ := h
  have hc := fun em : Bool => run_key (P := P) (w := w) kt hkt em 9999 k
  have hg : (getObj m).run P w = .ok (.map es clock) w := by simp [getObj, Sem.run, hb]
  rcases findNow_spec k .i64 es.toList 0 hk with ⟨j, hj, h1, h2, h3, h4⟩ | ⟨h3, h2, h4⟩
  · rw [← hf k, h4]
    simp [Instr.lookup, run_underlying ht, hg, hc, Instr.findKey, run_underlying hkt, h3]
  · rw [← hf k, h4]
    simp [Instr.lookup, run_underlying ht, hg, hc, Instr.findKey, run_underlying hkt, h3, hz]
end
theorem isM_pos {ls : List Int} {v : Int} (h : isM ls v ≠ none) : 0 ≤ v := by
  rcases Int.lt_or_le v 0 with hv | hv
  · exact absurd (isM_none.2 fun x _ => by omega) h
  · exact hv
def st1 (ls : List Int) (n c x : Int) : Int := if ls.contains (-x) then n else n + c
theorem st1_sum (ls : List Int) : ∀ (z : List (Int × Int)) (n : Int), foldP (st1 ls) z n = n + lsumZ (fun y => !ls.contains (-y)) z
  | [], n => by simp [foldP, lsumZ]
  | q :: z, n => by
    have ih := st1_sum ls z (st1 ls n q.1 q.2)
    unfold foldP at ih ⊢
    rw [List.foldl_cons, ih]
    simp only [lsumZ, st1]
    by_cases hc : -q.2 ∈ ls <;> simp [hc] <;> omega
def ForcePost (r : Option (List Int)) (w : World) (e : Ending) (w' : World) : Prop :=
  match r with
  | none => e = .returned (.tuple #[.slice none 0 0, .bool false]) ∧ Below w.heap.size w w'
  | some fs => ∃ A c, e = .returned (.tuple #[.slice A fs.length c, .bool true]) ∧ Own w' 3 (.slice A fs.length c) (fs.map I64) ∧ fs.length ≤ 4096 ∧ Below w.heap.size w w'

set_option maxRecDepth 100000 in
set_option maxHeartbeats 3200000 in
theorem force_any (A L T : Option Addr) (cA cL cT : Nat) (l : LinV) (lits : List Int) (w : World) (h : LinAt w A L l) (ht : Rd I64 (· < w.heap.size) w T lits) (htl : lits.length ≤ maxLen) (htb : ∀ x ∈ lits, -9223372036854775808 ≤ x ∧ x ≤ 9223372036854775807) :
    Calls Try.prog 20 #[linV A L cA cL l, .slice T lits.length cT] w (ForcePost (forceP l lits) w) := by
  unfold maxLen at htl
  have H := Lib.hid h
  have HTr := Lib.hid ht
  have HTb := Lib.hid htb
  clear h ht htb
  have HBw := Lib.hid (below1 w (Obj.cells #[Value.slice A l.C.length cA, Value.slice L l.L.length cL, I64 l.B] 24))
  have HD1 := Lib.hid (Blk.new w 24 #[Value.slice A l.C.length cA, Value.slice L l.L.length cL, I64 l.B])
  go_enter Try.func20, Try.ntmps20
  go_wp2_with fail
  generalize w.alloc (Obj.cells #[Value.slice A l.C.length cA, Value.slice L l.L.length cL, I64 l.B] 24) = w1 at HBw HD1 ⊢
  refine (right_any A L cA cL l w1 (H.out.up HBw.out)).mono ?_
  rintro e w2 ⟨rfl, b2⟩
  have B2 := Lib.hid (below_up HBw.out b2)
  have HE1 := Lib.hid (HD1.out.up b2)
  clear b2 HD1 HBw
  by_cases hz : lcheck l 65536 = 0
  · have HZ := Lib.hid hz
    rw [hz]
    clear hz
    have hmm := @run_makeMap Try.prog
    have HM0 := Lib.hid ((MapI.made w2).kp ((Kp.refl (fun _ => False) _).alloc (.cells #[.map (some w2.heap.size)] 69)) (fun h => h))
    have HG0 := Lib.hid (blk2 w2 (.map #[] 0) 69 #[.map (some w2.heap.size)])
    have HB0 := Lib.hid (below2 w2 (.map #[] 0) (.cells #[.map (some w2.heap.size)] 69))
    go_wp2_with fail
    clear hmm
    generalize (w2.alloc (.map #[] 0)).alloc (.cells #[.map (some w2.heap.size)] 69) = w3 at HM0 HG0 HB0 ⊢
    generalize w2.heap.size + 1 = g at HG0 ⊢
    have HmB := Lib.hid (Nat.le_refl w2.heap.size)
    go_loopw [4, 5, 8, 9, 10, 19] (fun fv _ _ _ _ iv wr => fv = .slice none 0 0 ∧ ∃ i : Nat, iv = .int .i64 i ∧ i ≤ lits.length ∧ Good lits i ∧ MapI wr w2.heap.size (isM (lits.take i)) ∧ Kp (· = w2.heap.size) w3 wr) (fun _ _ _ _ _ iv _ => lits.length - (intOf iv).toNat)
    case atStart => exact ⟨rfl, 0, rfl, Nat.zero_le _, fun i hi => by omega, HM0.out, Kp.refl _ _⟩
    case round =>
      obtain ⟨rfl, i, rfl, hi, hgd, hm, hk⟩ := hrel
      have HGd := Lib.hid hgd
      have HM := Lib.hid hm
      have HK := Lib.hid hk
      clear hgd hm hk
      have HBx := Lib.hid (show Below w.heap.size w wr from (below_up B2.out HB0.out).trans (HK.out.below (fun k h1 _ e => by have := B2.out.size; omega) (Nat.le_trans B2.out.size HB0.out.size)))
      have HGr := Lib.hid (HG0.out.kp HK.out (fun e => HM0.out.ne_blk HG0.out e.symm))
      have cg : wr.cell? ⟨g, 0, none⟩ = some (.map (some w2.heap.size)) := HGr.out.cell 0
      by_cases hlt : i < lits.length
      · obtain ⟨tb, tf, eT, _, ct⟩ := (HTr.out.up HBx.out).at_ hlt
        have hxb := HTb.out _ (List.getElem_mem hlt)
        have HBad := Lib.hid (show okLit (lits.take i) lits[i] = false → forceP l lits = none from fun hb => by
          cases hu : unlikeP 65536 lits with
          | false => rw [forceP, if_pos (.inr hu)]
          | true =>
            have := (unlike_good lits).1 hu i hlt
            rw [List.getD_eq_getElem?_getD, List.getElem?_eq_getElem hlt, Option.getD_some, hb] at this
            cases this)
        have HGs := Lib.hid (show okLit (lits.take i) lits[i] = true → Good lits (i + 1) ∧ isM (lits.take (i + 1)) = upd (isM (lits.take i)) (lits[i].natAbs : Int) (I64 lits[i]) from fun hb => ⟨good_succ HGd.out (by rw [List.getD_eq_getElem?_getD, List.getElem?_eq_getElem hlt]; exact hb), by rw [List.take_succ_eq_append_getElem hlt]; exact isM_snoc _ _ (okLit_iff.1 hb).2⟩)
        have hlk := fun k => run_look2 (P := Try.prog) 69 3 3 (I64 0) Try.underlying69 Try.underlying3 zeroI (show MapI (wr.drewN k) w2.heap.size _ from HM.out.kp ((Kp.refl (fun _ => False) wr).drewN k) (fun h => h)) (ofK lits[i])
        subst eT
        generalize lits[i] = x at ct hxb HBad HGs hlk
        obtain ⟨hx1, hx2⟩ := hxb
        have HLF := Lib.hid (fun W => of_all x W hx1 hx2)
        cases hfk : isM (lits.take i) (ofK x) with
        | some y =>
          have HN := Lib.hid (HBad.out (by
            cases hb : okLit (lits.take i) x with
            | false => rfl
            | true =>
              have h1 := okLit_iff.1 hb
              have h2 : ofK x = (x.natAbs : Int) := by rw [ofK, if_neg (by omega)]
              rw [h2, h1.2] at hfk
              cases hfk))
          rw [hfk] at hlk
          clear hfk
          simp only [Option.getD_some, Option.isSome_some] at hlk
          go_wp2_with fail
          go_quiet (first | (refine (HLF.out _).mono ?_; rintro e w5 ⟨rfl, rfl⟩; exact ⟨rfl, _, rfl⟩))
          go_wp2_with fail
          go_ret2
          rw [HN.out]
          exact ⟨rfl, below_n HBx.out _⟩
        | none =>
          rw [hfk] at hlk
          have HFk := Lib.hid hfk
          clear hfk
          simp only [Option.getD_none, Option.isSome_none] at hlk
          by_cases h0 : x = 0
          · have HN := Lib.hid (HBad.out (by
              cases hb : okLit (lits.take i) x with
              | false => rfl
              | true => exact absurd h0 (okLit_iff.1 hb).1.1))
            have e0 : (x == 0) = true := by simpa using h0
            clear h0
            go_wp2_with fail
            go_quiet (first | (refine (HLF.out _).mono ?_; rintro e w5 ⟨rfl, rfl⟩; exact ⟨rfl, _, rfl⟩))
            go_wp2_with fail
            go_ret2
            rw [HN.out]
            exact ⟨rfl, below_n HBx.out _⟩
          · have e0 : (x == 0) = false := by simpa using h0
            by_cases h1 : x < -65536
            · have HN := Lib.hid (HBad.out (by
                cases hb : okLit (lits.take i) x with
                | false => rfl
                | true => have := (okLit_iff.1 hb).1; omega))
              have e1 : decide (x < -65536) = true := by simpa using h1
              go_wp2_with fail
              go_quiet (first | (refine (HLF.out _).mono ?_; rintro e w5 ⟨rfl, rfl⟩; exact ⟨rfl, _, rfl⟩))
              go_wp2_with fail
              go_ret2
              rw [HN.out]
              exact ⟨rfl, below_n HBx.out _⟩
            · have e1 : decide (x < -65536) = false := by simpa using h1
              have HO := Lib.hid (show ofK x = (x.natAbs : Int) by rw [ofK, if_neg (by omega)])
              by_cases h2 : 65536 < x
              · have HN := Lib.hid (HBad.out (by
                  cases hb : okLit (lits.take i) x with
                  | false => rfl
                  | true => have := (okLit_iff.1 hb).1; omega))
                have hok : 65536 < ofK x := by rw [HO.out]; omega
                go_wp2_with fail
                go_quiet (first | (refine (HLF.out _).mono ?_; rintro e w5 ⟨rfl, rfl⟩; exact ⟨rfl, _, rfl⟩))
                go_wp2_with fail
                refine (HLF.out _).mono ?_
                rintro e w6 ⟨rfl, rfl⟩
                go_wp2_with fail
                go_ret2
                rw [HN.out]
                exact ⟨rfl, below_n HBx.out _⟩
              · have hok : ofK x ≤ 65536 := by rw [HO.out]; omega
                have hgood := HGs.out (okLit_iff.2 ⟨⟨h0, by omega, by omega⟩, by rw [← HO.out]; exact HFk.out⟩)
                rw [← HO.out] at hgood
                have HGo := Lib.hid hgood
                clear hgood
                go_wp2_with fail
                go_quiet (first | (refine (HLF.out _).mono ?_; rintro e w5 ⟨rfl, rfl⟩; exact ⟨rfl, _, rfl⟩))
                go_wp2_with fail
                refine (HLF.out _).mono ?_
                rintro e w6 ⟨rfl, rfl⟩
                obtain ⟨w6, hr6, hm6, hg6, _⟩ := run_upd (P := Try.prog) 69 3 3 Try.underlying69 Try.underlying3 (show MapI (wr.drewN (nq + 1)) w2.heap.size _ from HM.out.kp ((Kp.refl (fun _ => False) wr).drewN (nq + 1)) (fun h => h)) (ofK x) (I64 x)
                have HM6 := Lib.hid hm6
                have HK6 := Lib.hid (show Kp (· = w2.heap.size) w3 w6 from (HK.out.drewN (nq + 1)).grown hg6 (fun k e _ => by injection e with e; exact e.symm))
                have y1 : w6.cell? ⟨g, 0, none⟩ = some (.map (some w2.heap.size)) := ((HG0.out.kp HK6.out (fun e => HM0.out.ne_blk HG0.out e.symm)).cell 0)
                clear hm6 hg6
                go_wp2_with fail
                go_region_held3 (fun w' => w'.cell? ⟨g, 0, none⟩ = some (.map (some w2.heap.size))) (first | (exact y1) | go_keep) (first | (go_at_call 37; refine (HLF.out _).mono ?_; rintro e w8 ⟨rfl, rfl⟩))
                all_goals
                  go_wp2_with fail
                  go_roundw
                  case rel => exact ⟨rfl, i + 1, by go_num, by omega, HGo.out.1, by rw [HGo.out.2]; exact HM6.out, HK6.out⟩
                  case measure => simp [intOf]; omega
      · obtain rfl : i = lits.length := by omega
        have hgd := HGd.out
        have hm := HM.out
        rw [List.take_length] at hm
        have HGl := Lib.hid hgd
        have HMl := Lib.hid hm
        clear hgd hm HGd HM
        have hE1 : Blk wr w.heap.size 24 #[Value.slice A l.C.length cA, Value.slice L l.L.length cL, I64 l.B] := (HE1.out.up HB0.out).kp HK.out (fun e => by have := HE1.out.lt; omega)
        have c0 : wr.cell? ⟨w.heap.size, 0, none⟩ = some (.slice A l.C.length cA) := hE1.cell 0
        have c1 : wr.cell? ⟨w.heap.size, 1, none⟩ = some (.slice L l.L.length cL) := hE1.cell 1
        have c2 : wr.cell? ⟨w.heap.size, 2, none⟩ = some (I64 l.B) := hE1.cell 2
        clear hE1
        go_wp2_with fail
        refine (norm_any A L cA cL l wr (H.out.up HBx.out)).mono ?_
        rintro e w5 ⟨A5, L5, cA5, cL5, rfl, ho5, b5⟩
        have HO5 := Lib.hid ho5
        have B5 := Lib.hid b5
        clear ho5 b5 c0 c1 c2 cg
        obtain ⟨n1, n2, n3, n4⟩ := norm_facts HZ.out
        have nb := norm_bd HZ.out
        have HFo := Lib.hid (show forceP l lits = if canP (normP l) lits < (normP l).B then none else some (accP (pickQ lits (canP (normP l) lits - (normP l).B)) ((normP l).C.zip (normP l).L)) by
          rw [forceP, if_neg (by rw [(unlike_good lits).2 HGl.out]; simp [HZ.out])]
          rfl)
        have hlen := HO5.out.len
        have HN1 := Lib.hid n1
        generalize normP l = x at HO5 HFo n2 n3 n4 nb hlen HN1 ⊢
        clear n1
        obtain ⟨nb1, nb2, nb3⟩ := nb
        have HF1 := Lib.hid (show ∀ k, 0 ≤ lsumZ (fun y => !lits.contains (-y)) ((x.C.zip x.L).take k) ∧ lsumZ (fun y => !lits.contains (-y)) ((x.C.zip x.L).take k) ≤ 4503599627370496 from fun k => by
          have hp : ∀ q ∈ x.C.zip x.L, 0 < q.1 := fun q hq => n3 q.1 (List.of_mem_zip hq).1
          have h1 := lsum_nn (fun y => !lits.contains (-y)) ((x.C.zip x.L).take k) (fun q hq => hp q (List.mem_of_mem_take hq))
          have h2 := sumF1_take (x.C.zip x.L) k hp
          omega)
        have N2 := Lib.hid n2
        have N3 := Lib.hid nb1
        have hwB : wrap64 (-x.B) = -x.B := by unfold wrap64; omega
        clear n2 n3 n4 nb1
        go_wp2_with fail
        have B6 := Lib.hid (below_up B5.out (below1 w5 (.cells #[.slice A5 x.C.length cA5, .slice L5 x.L.length cL5, I64 x.B] 24)))
        have HL6 := Lib.hid (HO5.out.at_.up (below1 w5 (.cells #[.slice A5 x.C.length cA5, .slice L5 x.L.length cL5, I64 x.B] 24)))
        have HX6 := Lib.hid (Blk.new w5 24 #[.slice A5 x.C.length cA5, .slice L5 x.L.length cL5, I64 x.B])
        generalize w5.alloc (.cells #[.slice A5 x.C.length cA5, .slice L5 x.L.length cL5, I64 x.B] 24) = w6 at B6 HL6 HX6 ⊢
        generalize w5.heap.size = bx at HX6 ⊢
        have HAll := Lib.hid (show ∀ W, Below wr.heap.size wr W → W.cell? ⟨g, 0, none⟩ = some (.map (some w2.heap.size)) ∧ MapI W w2.heap.size (isM lits) from fun W hW => ⟨(HGr.out.up hW).cell 0, HMl.out.kp (Kp.of_below hW) (by have := HMl.out.lt; omega)⟩)
        have HST := Lib.hid (show Steps 53 [.pointer (some ⟨g, 0, none⟩)] (st1 lits) x (-x.B) w6 from fun k h1 h2 wx hx => by
          have hb := HF1.out k
          have hy := N2.out _ (List.getElem_mem h2)
          have hc := N3.out _ (List.getElem_mem h1)
          have ha := HAll.out wx (below_up B6.out hx)
          refine (force1_any _ x.C[k] x.L[k] g w2.heap.size lits wx ha.1 ha.2 HGl.out hy.1 hy.2.1 hy.2.2 ?_ ?_ (by omega) (by omega)).mono fun e w' h => ⟨h.1, below_q (Below.refl _ _) h.2⟩
          · rw [st1_sum]; omega
          · rw [st1_sum]; omega)
        refine (foldI_any 53 [.pointer (some ⟨g, 0, none⟩)] (st1 lits) A5 L5 cA5 cL5 x (-x.B) w6 (enters_of Try.func53 (by kernel_rfl) rfl) HST.out HL6.out HN1.out).mono ?_
        rintro e w7 ⟨rfl, b7⟩
        have HSp := Lib.hid (show foldP (st1 lits) (x.C.zip x.L) (-x.B) = canP x lits - x.B by rw [st1_sum, canP]; omega)
        have B7 := Lib.hid (below_up B6.out b7)
        have HX7 := Lib.hid (HX6.out.up b7)
        have HL7 := Lib.hid (HL6.out.up b7)
        clear b7 HX6 HL6 HST B6
        rw [HSp.out]
        generalize hsp : canP x lits - x.B = sp at HFo ⊢
        have HSp2 := Lib.hid hsp
        clear hsp HSp
        have B8 := Lib.hid (below_up B7.out (below1 w7 (.cells #[I64 sp] 3)))
        have HX8 := Lib.hid (HX7.out.up (below1 w7 (.cells #[I64 sp] 3)))
        have HL8 := Lib.hid (HL7.out.up (below1 w7 (.cells #[I64 sp] 3)))
        have HS8 := Lib.hid (Blk.new w7 3 #[I64 sp])
        by_cases hneg : sp < 0
        · have HN := Lib.hid (show forceP l lits = none by rw [HFo.out, if_pos (by have := HSp2.out; omega)])
          go_wp2_with fail
          go_ret2
          rw [HN.out]
          exact ⟨rfl, below_up HBx.out B8.out⟩
        · have HN := Lib.hid (show forceP l lits = some (accP (pickQ lits sp) (x.C.zip x.L)) by rw [HFo.out, if_neg (by have := HSp2.out; omega)])
          have x0 : (w7.alloc (.cells #[I64 sp] 3)).cell? ⟨bx, 0, none⟩ = some (.slice A5 x.C.length cA5) := HX8.out.cell 0
          have x1 : (w7.alloc (.cells #[I64 sp] 3)).cell? ⟨bx, 1, none⟩ = some (.slice L5 x.L.length cL5) := HX8.out.cell 1
          have x2 : (w7.alloc (.cells #[I64 sp] 3)).cell? ⟨bx, 2, none⟩ = some (I64 x.B) := HX8.out.cell 2
          go_wp2_with fail
          clear x0 x1 x2
          generalize w7.alloc (.cells #[I64 sp] 3) = w8 at B8 HX8 HL8 HS8 ⊢
          generalize w7.heap.size = g2 at HS8 ⊢
          have hxl := hlen
          have HST := Lib.hid (show StepsL 55 [.pointer (some ⟨g, 0, none⟩), .pointer (some ⟨g2, 0, none⟩)] (pickQ lits sp) x w8 from fun wb hwb k h1 h2 A9 c9 wx hx ho hg9 => by
            have hy := N2.out _ (List.getElem_mem h2)
            have ha := HAll.out wx (below_up (below_up B8.out hwb) hx)
            have hac := accP_len (pickQ lits sp) ((x.C.zip x.L).take k)
            have hz2 : ((x.C.zip x.L).take k).length ≤ 4096 := by rw [List.length_take, List.length_zip]; omega
            have := force2_any x.C[k] x.L[k] sp g w2.heap.size g2 lits A9 (accP (pickQ lits sp) ((x.C.zip x.L).take k)).length c9 (accP (pickQ lits sp) ((x.C.zip x.L).take k)) wb wx ha.1 (((HS8.out.up (below_up hwb hx))).cell 0) ha.2 HGl.out hy.1 hy.2.1 hy.2.2 rfl (by omega) ho hg9 hx
            rw [← accP_snoc (pickQ lits sp) x.C x.L k h1 h2] at this
            exact this)
          refine (foldL_any 55 [.pointer (some ⟨g, 0, none⟩), .pointer (some ⟨g2, 0, none⟩)] (pickQ lits sp) A5 L5 cA5 cL5 x w8 (enters_of Try.func55 (by kernel_rfl) rfl) HST.out HL8.out HN1.out).mono ?_
          rintro e w9 ⟨A9, c9, rfl, o9, g9, b9⟩
          have O9 := Lib.hid (And.intro o9 b9)
          clear o9 g9 b9
          go_wp2_with fail
          go_ret2
          rw [HN.out]
          refine ⟨A9, c9, rfl, O9.out.1, ?_, below_up (below_up HBx.out B8.out) O9.out.2⟩
          have hac := accP_len (pickQ lits sp) (x.C.zip x.L)
          rw [List.length_zip] at hac
          omega
  · have HN := Lib.hid (show forceP l lits = none by rw [forceP, if_pos (.inl hz)])
    go_wp2_with fail
    go_ret2
    rw [HN.out]
    exact ⟨rfl, B2.out⟩
end Go.Proofs.Ytibfgeoiemmjoaa
