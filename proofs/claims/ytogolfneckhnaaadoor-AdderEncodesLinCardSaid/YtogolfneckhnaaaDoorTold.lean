/- The contract of the law's helper told: for clauses of small literals it returns what the plain function says. -/
import Derived.Test.YtogolfneckhnaaaDoorLaw17b
namespace Go.Proofs.YtogolfneckhnaaaDoor
open Go.RowKit Go.Shelf

theorem forced_snoc (cs : List (List Int)) (lit v : Int) (a : List Bool) (i : Nat) (h : i < cs.length) : forcedB (cs.take (i + 1)) lit v a = (forcedB (cs.take i) lit v a || (hasB cs[i] lit && otherB cs[i] lit a v)) := by
  unfold forcedB
  rw [List.take_succ_eq_append_getElem h, List.any_append]; simp
def ToRel (w : World) (cs : List (List Int)) (a : List Bool) (next : Int) (n : Nat) (T : List Bool × Bool) (ov vv : Value) (wr : World) : Prop :=
  ∃ (k : Nat) (v : Int) (out : List Bool), vv = .int .i64 v ∧ v = next + k ∧ k ≤ n ∧ out.length = a.length + k ∧ Own wr 4 ov (out.map Value.bool) ∧ (∀ g, ov.ownBlock = some g → w.heap.size ≤ g) ∧ Below w.heap.size w wr ∧ toldP cs out v (n - k) = T
def ToldPost (w : World) (T : List Bool × Bool) (e : Ending) (w' : World) : Prop := ∃ A' c', e = .returned (.tuple #[.slice A' T.1.length c', .bool T.2]) ∧ Rd Value.bool (· < w'.heap.size) w' A' T.1 ∧ Below w.heap.size w w'
theorem has_at {D : Nat → Prop} {L : Option Addr} {cL : Nat} {l : List Int} {n : Int} {w : World} {b : Bool} (hr : Rd I64 D w L l) (hl : l.length ≤ maxLen) (hb : hasB l n = b) :
    Calls Tryd.prog 39 #[.slice L l.length cL, I64 n] w fun e w' => e = .returned (.bool b) ∧ w = w' := by
  subst hb
  exact has_any L cL l n w hr hl
theorem other_at {D E : Nat → Prop} {L A : Option Addr} {cL cA na : Nat} {l : List Int} {a : List Bool} {lit known : Int} {w : World} {b : Bool} (hr : Rd I64 D w L l) (ha : Rd Value.bool E w A a) (hl : l.length ≤ maxLen) (hal : a.length ≤ maxLen) (hbd : ∀ x ∈ l, -70000 ≤ x ∧ x ≤ 70000) (hna : a.length = na) (hb : otherB l lit a known = b) :
    Calls Tryd.prog 40 #[.slice L l.length cL, I64 lit, .slice A na cA, I64 known] w fun e w' => e = .returned (.bool b) ∧ ∃ q, w' = w.drewN q := by
  subst hb hna
  exact other_any L A cL cA l a lit known w hr ha hl hal hbd
theorem below_q {B : Nat} {w w' wr : World} (h : Below B w w') (hq : ∃ q, wr = w'.drewN q) : Below B w wr := by
  obtain ⟨q, rfl⟩ := hq
  exact below_n h q
theorem own_q {w wr : World} {e : TypeId} {v : Value} {xs : List Value} (h : Own w e v xs) (hq : ∃ q, wr = w.drewN q) : Own wr e v xs := by
  obtain ⟨q, rfl⟩ := hq
  exact h.drewN q
theorem drew_trans {w wr wx : World} (h : ∃ q, wr = w.drewN q) (h' : ∃ q, wx = wr.drewN q) : ∃ q, wx = w.drewN q := by
  obtain ⟨q, rfl⟩ := h
  obtain ⟨p, rfl⟩ := h'
  exact ⟨q + p, World.drewN_drewN _ _ _⟩

theorem cell_q {w wr : World} {p : Addr} {v : Value} (h : ∃ q, wr = w.drewN q) (hc : w.cell? p = some v) : wr.cell? p = some v := by
  obtain ⟨q, rfl⟩ := h
  exact hc
theorem app_start {w w1 : World} {o : Obj} {A : Option Addr} {n cap : Nat} (hg : (w.alloc o).grownBy w1 (Value.slice (some ⟨w.heap.size, 0, none⟩) 0 0).ownBlock)
    (hat : ∀ g, (Value.slice A n cap).ownBlock = some g → (Value.slice (some ⟨w.heap.size, 0, none⟩) 0 0).ownBlock = some g ∨ g = w.heap.size + 1) : (∀ g, (Value.slice A n cap).ownBlock = some g → w.heap.size ≤ g) ∧ Below w.heap.size w w1 := by
  refine ⟨fun g hgg => ?_, (((Below.refl _ _).alloc (Nat.le_refl _) o).grown hg (by simp) (fun g e => ?_))⟩
  · rcases hat g hgg with h | h
    · have : w.heap.size = g := by simpa [Value.ownBlock] using h
      omega
    · omega
  · have : w.heap.size = g := by simpa [Value.ownBlock] using e
    omega
theorem rdlT {D : Nat → Prop} {w : World} {A : Option Addr} {xss : List (List Int)} (h : RdL D w A xss) {j : Nat} (hj : j < xss.length) : ∃ b off A' c', A = some ⟨b, off, none⟩ ∧ w.cell? ⟨b, off + j, none⟩ = some (.slice A' xss[j].length c') ∧ Rd I64 D w A' xss[j] := by
  obtain ⟨b, off, e, _, hc⟩ := h (by omega)
  obtain ⟨A', c', h1, _, h2⟩ := hc j hj
  exact ⟨b, off, A', c', e, h1, h2⟩
set_option maxRecDepth 100000 in
set_option maxHeartbeats 3200000 in
theorem told_any (C A : Option Addr) (cC cA n : Nat) (cs : List (List Int)) (a : List Bool) (next after : Int) (w : World) (hr : RdL (· < w.heap.size) w C cs) (ha : Rd Value.bool (· < w.heap.size) w A a) (hcl : cs.length ≤ 10000000) (hcs : ∀ c ∈ cs, c.length ≤ 1000 ∧ ∀ x ∈ c, -70000 ≤ x ∧ x ≤ 70000)
    (ha0 : 0 < a.length) (hal : a.length ≤ 100000) (hn : n ≤ 100000) (hnx0 : 0 ≤ next) (hnx : next ≤ 70000) (hafter : after = next + n) :
    Calls Tryd.prog 23 #[.slice C cs.length cC, .slice A a.length cA, I64 next, I64 after] w (ToldPost w (toldP cs a next n)) := by
  subst hafter
  obtain ⟨i0, hi, hz0, hz1, hz2⟩ := info_parts info_bool
  have HI := Lib.hid (And.intro hi (And.intro hz0 (And.intro hz1 hz2)))
  have HR := Lib.hid hr
  have HCs := Lib.hid hcs
  obtain ⟨ab, ao, rfl, _, hca⟩ := ha ha0
  have HCA := Lib.hid (show ∀ j u, (a.map Value.bool)[j]? = some u → (w.alloc (Obj.cells #[] 4)).cell? ((⟨ab, ao, none⟩ : Addr).add j) = some u from fun j u hu => by
    obtain ⟨hj, rfl⟩ := List.getElem?_eq_some_iff.1 hu
    rw [List.length_map] at hj
    rw [add_mk, (below1 w _).cell (p := ⟨ab, ao + j, none⟩) (World.block_lt_of_cell? w _ (hca j hj)), hca j hj, List.getElem_map])
  have HAM := Lib.hid (show (a.map Value.bool).length = a.length by simp)
  generalize hT : toldP cs a next n = T
  have HTT := Lib.hid hT
  clear hr hcs ha hca hi hz0 hz1 hz2 hT
  go_enter Tryd.func23, Tryd.ntmps23
  go_wp2_with (at_builtin; refine wpList_appends _ rfl (.tmp 15) (.tmp 16) 34 rfl 4 i0 (.bool false) 1 Tryd.underlying34 HI.out.1 HI.out.2.1 HI.out.2.2.1 HI.out.2.2.2 rfl _ [] rfl (Own.empty w _) ⟨ab, ao, none⟩ cA (a.map Value.bool) (by rw [HAM.out]; rfl) HCA.out ?c1 ?c2 ?c3 ?_)
  case c1 => intro u hu; obtain ⟨b, _, rfl⟩ := List.mem_map.1 hu; rfl
  case c2 => simp; unfold maxLen; omega
  case c3 => simp; omega
  intro A0 c0 w1 how hg hat
  have hst := app_start (A := A0) (n := a.length) (cap := c0) hg hat
  have HOw := Lib.hid how
  have HSt := Lib.hid hst
  clear how hg hat hst HCA
  go_wp2_with fail
  go_loopw [10, 11, 12, 13, 14] (fun ov vv _ _ _ wr => ToRel w cs a next n T ov vv wr) (fun _ vv _ _ _ _ => (next + n - intOf vv).toNat)
  case atStart => exact ⟨0, next, a, rfl, by simp, Nat.zero_le _, by simp, HOw.out, HSt.out.1, HSt.out.2, by simpa using HTT.out⟩
  case round =>
    obtain ⟨k, v, out, rfl, hv, hk, hol, how, hgs, hbel, htl⟩ := hrel
    have hv1 : next ≤ v := by omega
    have hv2 : v ≤ next + n := by omega
    have hol1 : out.length ≤ 300000 := by omega
    have HV := Lib.hid hv
    have HOl := Lib.hid hol
    have HOw1 := Lib.hid how
    have HGs := Lib.hid hgs
    have HBel := Lib.hid hbel
    have HTl := Lib.hid htl
    obtain ⟨oA, oc, eo, _, hord⟩ := how.rd
    have hlt0 := fun g hg => how.lt (g := g) hg
    subst eo
    have ROut := Lib.hid (show Rd Value.bool (· < wr.heap.size) wr oA out from hord.mono hlt0)
    have HRw := Lib.hid (HR.out.up hbel)
    clear hv hol how hgs hbel htl hord hlt0 HSt HOw
    by_cases hkn : k < n
    · have hvn : v < next + n := by have := HV.out; omega
      go_wp2_with fail
      obtain ⟨wl, hwl⟩ : ∃ wl : World, wl = wr := ⟨_, rfl⟩
      subst hwl
      go_loopw [12, 13, 14] (fun yv nv iv wr => ∃ (i : Nat) (y0 n0 : Bool), iv = .int .i64 i ∧ yv = .bool y0 ∧ nv = .bool n0 ∧ i ≤ cs.length ∧ forcedB (cs.take i) v v out = y0 ∧ forcedB (cs.take i) (-v) v out = n0 ∧ ∃ q, wr = wl.drewN q) (fun _ _ iv _ => cs.length - (intOf iv).toNat)
      case atStart => exact ⟨0, false, false, rfl, rfl, rfl, Nat.zero_le _, rfl, rfl, 0, rfl⟩
      case round =>
        obtain ⟨i, y0, n0, rfl, rfl, rfl, hi, hy, hno, hw⟩ := hrel
        have HY := Lib.hid hy
        have HNn := Lib.hid hno
        have HW := Lib.hid hw
        clear hy hno hw
        by_cases hlt : i < cs.length
        · skip
          obtain ⟨cb, co, A1, c1, rfl, hcc, rcl⟩ := rdlT (HRw.out) hlt
          obtain ⟨hl1, hbd1⟩ := HCs.out cs[i] (List.getElem_mem hlt)
          have HSy := Lib.hid (forced_snoc cs v v out i hlt)
          have HSn := Lib.hid (forced_snoc cs (-v) v out i hlt)
          rw [HY.out] at HSy
          rw [HNn.out] at HSn
          generalize cs[i] = cl at hcc rcl hl1 hbd1 HSy HSn
          have HCc := Lib.hid hcc
          have RCl := Lib.hid rcl
          have HBd := Lib.hid hbd1
          have hcell : wr.cell? ⟨cb, co + i, none⟩ = some (.slice A1 cl.length c1) := cell_q HW.out HCc.out
          clear hcc rcl hbd1 HY HNn
          cases y0
          · generalize hh1 : hasB cl v = h1 at HSy
            have HH1 := Lib.hid hh1
            clear hh1
            go_wp2_with fail
            refine (has_at (D := (· < wl.heap.size)) (rd_drew HW.out RCl.out) (by unfold maxLen; omega) HH1.out).mono ?_
            rintro e wz ⟨rfl, rfl⟩
            cases h1
            · cases n0
              · generalize hh2 : hasB cl (-v) = h2 at HSn
                have HH2 := Lib.hid hh2
                clear hh2
                have hcell2 : wr.cell? ⟨cb, co + i, none⟩ = some (.slice A1 cl.length c1) := cell_q HW.out HCc.out
                go_wp2_with fail
                refine (has_at (D := (· < wl.heap.size)) (rd_drew HW.out RCl.out) (by unfold maxLen; omega) HH2.out).mono ?_
                rintro e wz ⟨rfl, rfl⟩
                cases h2
                · go_wp2_with fail
                  go_roundw
                  case rel => exact ⟨i + 1, _, _, by go_num, rfl, rfl, by omega, by rw [HSy.out]; rfl, by rw [HSn.out]; rfl, HW.out⟩
                  case measure => simp [intOf]; omega
                · generalize ho2 : otherB cl (-v) out v = o2 at HSn
                  have HO2 := Lib.hid ho2
                  clear ho2
                  go_wp2_with fail
                  refine (other_at (D := (· < wl.heap.size)) (E := (· < wl.heap.size)) (rd_drew HW.out RCl.out) (rd_drew HW.out ROut.out) (by unfold maxLen; omega) (by unfold maxLen; omega) HBd.out rfl HO2.out).mono ?_
                  rintro e w9 ⟨rfl, hq9⟩
                  have HQ9 := Lib.hid (drew_trans HW.out hq9)
                  clear hq9
                  go_wp2_with fail
                  go_roundw
                  case rel => exact ⟨i + 1, _, _, by go_num, rfl, rfl, by omega, by rw [HSy.out]; rfl, by rw [HSn.out]; rfl, HQ9.out⟩
                  case measure => simp [intOf]; omega
              · go_wp2_with fail
                go_roundw
                case rel => exact ⟨i + 1, _, _, by go_num, rfl, rfl, by omega, by rw [HSy.out]; rfl, by rw [HSn.out]; rfl, HW.out⟩
                case measure => simp [intOf]; omega

            · generalize ho1 : otherB cl v out v = o1 at HSy
              have HO1 := Lib.hid ho1
              clear ho1
              go_wp2_with fail
              refine (other_at (D := (· < wl.heap.size)) (E := (· < wl.heap.size)) (rd_drew HW.out RCl.out) (rd_drew HW.out ROut.out) (by unfold maxLen; omega) (by unfold maxLen; omega) HBd.out rfl HO1.out).mono ?_
              rintro e w8 ⟨rfl, hq8⟩
              have HQ8 := Lib.hid (drew_trans HW.out hq8)
              clear hq8
              clear hcell
              cases n0
              · generalize hh2 : hasB cl (-v) = h2 at HSn
                have HH2 := Lib.hid hh2
                clear hh2
                have hcell3 : w8.cell? ⟨cb, co + i, none⟩ = some (.slice A1 cl.length c1) := cell_q HQ8.out HCc.out
                go_wp2_with fail
                refine (has_at (D := (· < wl.heap.size)) (rd_drew HQ8.out RCl.out) (by unfold maxLen; omega) HH2.out).mono ?_
                rintro e wz ⟨rfl, rfl⟩
                cases h2
                · go_wp2_with fail
                  go_roundw
                  case rel => exact ⟨i + 1, _, _, by go_num, rfl, rfl, by omega, by rw [HSy.out]; rfl, by rw [HSn.out]; rfl, HQ8.out⟩
                  case measure => simp [intOf]; omega
                · generalize ho2 : otherB cl (-v) out v = o2 at HSn
                  have HO2 := Lib.hid ho2
                  clear ho2
                  go_wp2_with fail
                  refine (other_at (D := (· < wl.heap.size)) (E := (· < wl.heap.size)) (rd_drew HQ8.out RCl.out) (rd_drew HQ8.out ROut.out) (by unfold maxLen; omega) (by unfold maxLen; omega) HBd.out rfl HO2.out).mono ?_
                  rintro e w9 ⟨rfl, hq9⟩
                  have HQ9 := Lib.hid (drew_trans HQ8.out hq9)
                  clear hq9
                  go_wp2_with fail
                  go_roundw
                  case rel => exact ⟨i + 1, _, _, by go_num, rfl, rfl, by omega, by rw [HSy.out]; rfl, by rw [HSn.out]; rfl, HQ9.out⟩
                  case measure => simp [intOf]; omega
              · go_wp2_with fail
                go_roundw
                case rel => exact ⟨i + 1, _, _, by go_num, rfl, rfl, by omega, by rw [HSy.out]; rfl, by rw [HSn.out]; rfl, HQ8.out⟩
                case measure => simp [intOf]; omega

          · cases n0
            · generalize hh2 : hasB cl (-v) = h2 at HSn
              have HH2 := Lib.hid hh2
              clear hh2
              have hcell4 : wr.cell? ⟨cb, co + i, none⟩ = some (.slice A1 cl.length c1) := cell_q HW.out HCc.out
              go_wp2_with fail
              refine (has_at (D := (· < wl.heap.size)) (rd_drew HW.out RCl.out) (by unfold maxLen; omega) HH2.out).mono ?_
              rintro e wz ⟨rfl, rfl⟩
              cases h2
              · go_wp2_with fail
                go_roundw
                case rel => exact ⟨i + 1, _, _, by go_num, rfl, rfl, by omega, by rw [HSy.out]; rfl, by rw [HSn.out]; rfl, HW.out⟩
                case measure => simp [intOf]; omega
              · generalize ho2 : otherB cl (-v) out v = o2 at HSn
                have HO2 := Lib.hid ho2
                clear ho2
                go_wp2_with fail
                refine (other_at (D := (· < wl.heap.size)) (E := (· < wl.heap.size)) (rd_drew HW.out RCl.out) (rd_drew HW.out ROut.out) (by unfold maxLen; omega) (by unfold maxLen; omega) HBd.out rfl HO2.out).mono ?_
                rintro e w9 ⟨rfl, hq9⟩
                have HQ9 := Lib.hid (drew_trans HW.out hq9)
                clear hq9
                go_wp2_with fail
                go_roundw
                case rel => exact ⟨i + 1, _, _, by go_num, rfl, rfl, by omega, by rw [HSy.out]; rfl, by rw [HSn.out]; rfl, HQ9.out⟩
                case measure => simp [intOf]; omega
            · go_wp2_with fail
              go_roundw
              case rel => exact ⟨i + 1, _, _, by go_num, rfl, rfl, by omega, by rw [HSy.out]; rfl, by rw [HSn.out]; rfl, HW.out⟩
              case measure => simp [intOf]; omega
        · obtain rfl : i = cs.length := by omega
          have hy := HY.out
          have hno := HNn.out
          rw [List.take_length] at hy hno
          obtain ⟨m, hm⟩ : ∃ m, n - k = m + 1 := ⟨n - k - 1, by omega⟩
          have htl := HTl.out
          rw [hm, toldP, hy, hno] at htl
          have hm2 : n - (k + 1) = m := by omega
          have HM2 := Lib.hid hm2
          have HB := Lib.hid (below_q HBel.out HW.out)
          have HO := Lib.hid (own_q HOw1.out HW.out)
          have RO := Lib.hid (rd_drew HW.out ROut.out)
          have hszq : wl.heap.size = wr.heap.size := by obtain ⟨q, hq⟩ := HW.out; rw [hq]; rfl
          have HSz := Lib.hid hszq
          obtain ⟨wx, hwx⟩ : ∃ wx : World, wx = wr := ⟨_, rfl⟩
          clear hy hno hm hm2 hszq HY HNn HTl HW HOw1 ROut
          subst hwx
          cases y0 <;> cases n0
          · have HTf := Lib.hid (show T = (out, false) by rw [← htl]; rfl)
            clear htl
            go_wp2_with fail
            go_ret2
            exact ⟨oA, oc, by rw [HTf.out]; rfl, by rw [HTf.out, ← HSz.out]; exact RO.out, HB.out⟩
          · have HTl2 := Lib.hid (show toldP cs (out ++ [false]) (v + 1) m = T by rw [← htl]; rfl)
            clear htl
            go_wp2_with (at_builtin; refine wpList_push _ rfl (.tmp 74) (.tmp 76) 34 rfl 4 i0 (.bool false) 1 Tryd.underlying34 HI.out.1 HI.out.2.1 HI.out.2.2.1 HI.out.2.2.2 rfl _ (out.map Value.bool) out.length (by simp) rfl (HO.out.alloc _) ⟨wx.heap.size, 0, none⟩ 1 (.bool false) rfl ?c1a rfl ?c2a ?c3a ?_)
            case c1a => simp
            case c2a => unfold maxLen; omega
            case c3a => omega
            intro g2 o2 cp2 w5 hown5 hg5 hat5
            have hk5 := least_push (o2 := o2) (n := out.length + 1) (cp2 := cp2) HGs.out HB.out hg5 hat5
            have HOw5 := Lib.hid (show Own w5 4 (.slice (some ⟨g2, o2, none⟩) (out.length + 1) cp2) ((out ++ [false]).map Value.bool) by rw [List.map_append]; exact hown5)
            have HK5 := Lib.hid hk5
            clear hown5 hg5 hat5 hk5
            go_wp2_with fail
            go_roundw
            case rel => exact ⟨k + 1, v + 1, out ++ [false], by go_num, by rw [HV.out]; omega, by omega, by rw [List.length_append, HOl.out]; simp; omega, HOw5.out, HK5.out.1, HK5.out.2, by rw [HM2.out]; exact HTl2.out⟩
            case measure => simp [intOf]; omega
          · have HTl2 := Lib.hid (show toldP cs (out ++ [true]) (v + 1) m = T by rw [← htl]; rfl)
            clear htl
            go_wp2_with (at_builtin; refine wpList_push _ rfl (.tmp 74) (.tmp 76) 34 rfl 4 i0 (.bool false) 1 Tryd.underlying34 HI.out.1 HI.out.2.1 HI.out.2.2.1 HI.out.2.2.2 rfl _ (out.map Value.bool) out.length (by simp) rfl (HO.out.alloc _) ⟨wx.heap.size, 0, none⟩ 1 (.bool true) rfl ?c1b rfl ?c2b ?c3b ?_)
            case c1b => simp
            case c2b => unfold maxLen; omega
            case c3b => omega
            intro g2 o2 cp2 w5 hown5 hg5 hat5
            have hk5 := least_push (o2 := o2) (n := out.length + 1) (cp2 := cp2) HGs.out HB.out hg5 hat5
            have HOw5 := Lib.hid (show Own w5 4 (.slice (some ⟨g2, o2, none⟩) (out.length + 1) cp2) ((out ++ [true]).map Value.bool) by rw [List.map_append]; exact hown5)
            have HK5 := Lib.hid hk5
            clear hown5 hg5 hat5 hk5
            go_wp2_with fail
            go_roundw
            case rel => exact ⟨k + 1, v + 1, out ++ [true], by go_num, by rw [HV.out]; omega, by omega, by rw [List.length_append, HOl.out]; simp; omega, HOw5.out, HK5.out.1, HK5.out.2, by rw [HM2.out]; exact HTl2.out⟩
            case measure => simp [intOf]; omega
          · have HTf := Lib.hid (show T = (out, false) by rw [← htl]; rfl)
            clear htl
            go_wp2_with fail
            go_ret2
            exact ⟨oA, oc, by rw [HTf.out]; rfl, by rw [HTf.out, ← HSz.out]; exact RO.out, HB.out⟩
    · have hvn : ¬ v < next + n := by have := HV.out; omega
      have htl := HTl.out
      rw [show n - k = 0 by omega, toldP] at htl
      have HTf := Lib.hid (show T = (out, true) from htl.symm)
      clear htl
      go_wp2_with fail
      go_ret2
      exact ⟨oA, oc, by rw [HTf.out]; rfl, by rw [HTf.out]; exact ROut.out, HBel.out⟩
end Go.Proofs.YtogolfneckhnaaaDoor
