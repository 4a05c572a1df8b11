/- Contracts of the clause package's Check and Value: for every formula and assignment they return what the plain functions say. -/
import Derived.Test.YtogolfneckhnaaaDoorCnfLit
import Derived.Test.YtogolfneckhnaaaDoorLive17b
namespace Go.Proofs.YtogolfneckhnaaaDoor
open Go.RowKit Go.Shelf

/-- what a predicate on clauses does: it says pd c, and writes nothing that was there -/
def PredsL (f : Nat) (lb : List Value) (pd : List Int → Bool) (cs : List (List Int)) (w : World) : Prop :=
  ∀ c ∈ cs, ∀ A cA wx, Below w.heap.size w wx → Rd I64 (· < wx.heap.size) wx A c → Calls Tryd.prog f (.slice A c.length cA :: lb).toArray wx fun e w' => e = .returned (.bool (pd c)) ∧ Below wx.heap.size wx w'
theorem rdlAt {D : Nat → Prop} {w : World} {A : Option Addr} {xss : List (List Int)} (h : RdL D w A xss) {j : Nat} (hj : j < xss.length) : ∃ b off A' c', A = some ⟨b, off, none⟩ ∧ w.cell? ⟨b, off + j, none⟩ = some (.slice A' xss[j].length c') ∧ Rd I64 D w A' xss[j] := by
  obtain ⟨b, off, e, _, hc⟩ := h (by omega)
  obtain ⟨A', c', h1, _, h2⟩ := hc j hj
  exact ⟨b, off, A', c', e, h1, h2⟩

set_option maxHeartbeats 800000 in
theorem ifl_any (f : Nat) (lb : List Value) (pd : List Int → Bool) (A : Option Addr) (c : Nat) (l : List (List Int)) (w : World) (heg : ∀ (args : Array Value) (w : World), (callFunc f args).run Tryd.prog w = .ok (.enter f args) w)
    (hp : PredsL f lb pd l w) (hr : RdL (· < w.heap.size) w A l) (hl : l.length ≤ maxLen) :
    Calls Tryd.prog 73 #[.slice A l.length c, .func (.func f) #[] lb.toArray] w fun e w' => (∃ i : Int, e = .returned (I64 i) ∧ (decide (0 ≤ i) = l.any pd)) ∧ Below w.heap.size w w' := by
  unfold maxLen at hl
  have HP := Lib.hid hp
  have HR := Lib.hid hr
  clear hp hr
  go_enter Tryd.func73, Tryd.ntmps73
  go_wp2_with fail
  go_loopw [8] (fun i wr => ∃ k : Nat, i = .int .i64 k ∧ k ≤ l.length ∧ Below w.heap.size w wr ∧ (l.take k).any pd = false) (fun i _ => l.length - (intOf i).toNat)
  case atStart => exact ⟨0, rfl, Nat.zero_le _, Below.refl _ _, rfl⟩
  case round =>
    obtain ⟨k, rfl, hk, hw, ht⟩ := hrel
    have HW := Lib.hid hw
    have HT := Lib.hid ht
    clear ht hw
    by_cases hlt : k < l.length
    · obtain ⟨a, oa, A1, c1, rfl, ca, ra⟩ := rdlAt (HR.out.up HW.out) hlt
      have hpx := HP.out l[k] (List.getElem_mem hlt) A1 c1 wr HW.out ra
      have htk : (l.take (k + 1)).any pd = pd l[k] := by rw [List.take_succ_eq_append_getElem hlt, List.any_append, HT.out]; simp
      have hyes : pd l[k] = true → l.any pd = true := fun h => List.any_eq_true.2 ⟨l[k], List.getElem_mem hlt, h⟩
      clear ra
      generalize l[k] = x at ca hpx htk hyes
      have HPX := Lib.hid hpx
      have HTK := Lib.hid htk
      have HY := Lib.hid hyes
      clear hpx htk hyes
      generalize hb : pd x = b at HPX HTK HY
      clear hb
      go_wp2_with fail
      refine HPX.out.mono ?_
      rintro e w3 ⟨rfl, b3⟩
      have B3 := Lib.hid (below_up HW.out b3)
      clear b3
      cases b
      · go_wp2_with fail
        go_roundw
        case rel => exact ⟨k + 1, by go_num, by omega, B3.out, HTK.out⟩
        case measure => simp [intOf]; omega
      · go_wp2_with fail
        go_ret
        exact ⟨⟨_, rfl, by have h := HY.out (by simp); rw [h]; simp⟩, B3.out⟩
    · go_wp2_with fail
      go_ret
      refine ⟨⟨_, rfl, ?_⟩, HW.out⟩
      have h2 := HT.out
      rw [List.take_of_length_le (by omega)] at h2
      rw [h2]; rfl
set_option maxHeartbeats 400000 in
theorem cfl_any (f : Nat) (lb : List Value) (pd : List Int → Bool) (A : Option Addr) (c : Nat) (l : List (List Int)) (w : World) (heg : ∀ (args : Array Value) (w : World), (callFunc f args).run Tryd.prog w = .ok (.enter f args) w)
    (hp : PredsL f lb pd l w) (hr : RdL (· < w.heap.size) w A l) (hl : l.length ≤ maxLen) :
    Calls Tryd.prog 44 #[.slice A l.length c, .func (.func f) #[] lb.toArray] w fun e w' => e = .returned (.bool (l.any pd)) ∧ Below w.heap.size w w' := by
  have H := Lib.hid (ifl_any f lb pd A c l w heg hp hr hl)
  clear heg hp hr hl
  go_enter Tryd.func44, Tryd.ntmps44
  go_wp2_with fail
  refine H.out.mono ?_
  rintro e w3 ⟨⟨i, rfl, hi⟩, b3⟩
  have HI := Lib.hid hi
  have B3 := Lib.hid b3
  clear hi b3
  go_wp2_with fail
  go_ret
  exact ⟨by simp [← HI.out], B3.out⟩

def checkP (N : Int) (cs : List (List Int)) : Int :=
  if N < 0 ∨ 65536 < N then 1 else if cs.any (fun l => l.any fun x => !mayB x N) = true then 1 else if 65536 < cs.length then 2 else 0
theorem check1_any (x N : Int) (g : Nat) (w : World) (hg : w.cell? ⟨g, 0, none⟩ = some (I64 N)) (h0 : 0 ≤ N) (h1 : N ≤ 65536) :
    Calls Tryd.prog 41 #[I64 x, .pointer (some ⟨g, 0, none⟩)] w fun e w' => e = .returned (.bool (!mayB x N)) ∧ w = w' := by
  have H := Lib.hid (may_any x N w h0 h1)
  go_enter Tryd.func41, Tryd.ntmps41
  go_wp2_with fail
  refine H.out.mono ?_
  rintro e w1 ⟨rfl, rfl⟩
  go_wp2_with fail
  go_ret
  exact ⟨rfl, rfl⟩
set_option maxHeartbeats 1600000 in
theorem check_any (N : Int) (C : Option Addr) (cC : Nat) (cs : List (List Int)) (w : World) (hr : RdL (· < w.heap.size) w C cs) (hl : cs.length ≤ maxLen) (hls : ∀ c ∈ cs, c.length ≤ maxLen) :
    Calls Tryd.prog 24 #[.agg #[I64 N, .slice C cs.length cC]] w fun e w' => e = .returned (I64 (checkP N cs)) ∧ Below w.heap.size w w' := by
  unfold maxLen at hl
  have HR := Lib.hid hr
  have HLs := Lib.hid hls
  clear hr hls
  by_cases h1 : N < 0
  · have HE := Lib.hid (show checkP N cs = 1 by rw [checkP, if_pos (.inl h1)])
    go_enter Tryd.func24, Tryd.ntmps24
    go_wp2_with fail
    go_ret
    exact ⟨by rw [HE.out]; rfl, below1 w _⟩
  · have e1 : decide (N < 0) = false := by simpa using h1
    by_cases h2 : 65536 < N
    · have HE := Lib.hid (show checkP N cs = 1 by rw [checkP, if_pos (.inr h2)])
      go_enter Tryd.func24, Tryd.ntmps24
      go_wp2_with fail
      go_ret
      exact ⟨by rw [HE.out]; rfl, below1 w _⟩
    · have e2 : decide (65536 < N) = false := by simpa using h2
      have HE := Lib.hid (show checkP N cs = if cs.any (fun l => l.any fun x => !mayB x N) = true then 1 else if 65536 < cs.length then 2 else 0 by rw [checkP, if_neg (by omega)])
      go_enter Tryd.func24, Tryd.ntmps24
      go_wp2_with fail
      have HB := Lib.hid (below1 w (Obj.cells #[I64 N, Value.slice C cs.length cC] 44))
      have HC := Lib.hid (Blk.new w 44 #[I64 N, Value.slice C cs.length cC])
      have HRW := Lib.hid (HR.out.up HB.out)
      generalize hw1 : w.alloc (Obj.cells #[I64 N, Value.slice C cs.length cC] 44) = w1 at HB HC HRW ⊢
      have hsz : w.heap.size < w1.heap.size := HC.out.lt
      clear hw1
      go_loopw [4, 16] (fun _ iv wr => ∃ i q : Nat, iv = .int .i64 i ∧ i ≤ cs.length ∧ wr = w1.drewN q ∧ (cs.take i).any (fun l => l.any fun x => !mayB x N) = false) (fun _ iv _ => cs.length - (intOf iv).toNat)
      case atStart => exact ⟨0, 0, rfl, Nat.zero_le _, rfl, rfl⟩
      case round =>
        obtain ⟨i, q, rfl, hi, hw, hno⟩ := hrel
        have HW := Lib.hid hw
        have HNo := Lib.hid hno
        have hc0 : wr.cell? ⟨w.heap.size, 0, none⟩ = some (I64 N) := by rw [hw]; exact HC.out.cell 0
        have hc1 : wr.cell? ⟨w.heap.size, 1, none⟩ = some (.slice C cs.length cC) := by rw [hw]; exact HC.out.cell 1
        clear hw hno
        by_cases hlt : i < cs.length
        · obtain ⟨cb, co, A1, c1, rfl, ca, ra⟩ := rdlAt (show RdL (· < w1.heap.size) wr C cs by rw [HW.out]; exact HRW.out) hlt
          have hl1 := HLs.out cs[i] (List.getElem_mem hlt)
          have HTk := Lib.hid (show (cs.take (i + 1)).any (fun l => l.any fun x => !mayB x N) = cs[i].any (fun x => !mayB x N) by rw [List.take_succ_eq_append_getElem hlt, List.any_append, HNo.out]; simp)
          have HYes := Lib.hid (show cs[i].any (fun x => !mayB x N) = true → cs.any (fun l => l.any fun x => !mayB x N) = true from fun h => List.any_eq_true.2 ⟨cs[i], List.getElem_mem hlt, h⟩)
          generalize cs[i] = cl at ca ra hl1 HTk HYes
          have HCF := Lib.hid (cf_any 41 [.pointer (some ⟨w.heap.size, 0, none⟩)] (fun x => !mayB x N) A1 c1 cl wr (enters_of Tryd.func41 (by kernel_rfl) rfl)
            (fun x _ n => (check1_any x N w.heap.size (wr.drewN n) hc0 (by omega) (by omega)).mono fun e w' ⟨h1, h2⟩ => ⟨h1, n, h2.symm⟩) ra hl1)
          clear ra hl1
          generalize cl.any (fun x => !mayB x N) = b at HCF HTk HYes
          go_wp2_with fail
          refine HCF.out.mono ?_
          rintro e w3 ⟨rfl, q3, hq3⟩
          have HQ3 := Lib.hid (show w3 = w1.drewN (q + q3) by rw [hq3, HW.out, World.drewN_drewN])
          clear hq3
          cases b
          · go_wp2_with fail
            go_roundw
            case rel => exact ⟨i + 1, q + q3, by go_num, by omega, HQ3.out, HTk.out⟩
            case measure => simp [intOf]; omega
          · have HEE := Lib.hid (show checkP N cs = 1 by rw [HE.out, if_pos (HYes.out rfl)])
            go_wp2_with fail
            go_ret
            exact ⟨by rw [HEE.out]; rfl, by rw [HQ3.out]; exact bel_n HB.out _⟩
        · obtain rfl : i = cs.length := by omega
          have hno := HNo.out
          rw [List.take_length] at hno
          have HE3 := Lib.hid (show checkP N cs = if 65536 < cs.length then 2 else 0 by rw [HE.out, if_neg (by rw [hno]; simp)])
          clear hno
          by_cases hbig : 65536 < cs.length
          · have HEE := Lib.hid (show checkP N cs = 2 by rw [HE3.out, if_pos hbig])
            go_wp2_with fail
            go_ret
            exact ⟨by rw [HEE.out]; rfl, by rw [HW.out]; exact bel_n HB.out _⟩
          · have HEE := Lib.hid (show checkP N cs = 0 by rw [HE3.out, if_neg hbig])
            go_wp2_with fail
            go_ret
            exact ⟨by rw [HEE.out]; rfl, by rw [HW.out]; exact bel_n HB.out _⟩

theorem value1_any (L A : Option Addr) (cL cA g : Nat) (l : List Int) (a : List Bool) (w : World) (hg : w.cell? ⟨g, 0, none⟩ = some (.slice A a.length cA)) (hr : Rd I64 (· < w.heap.size) w L l) (ha : Rd Value.bool (· < w.heap.size) w A a) (hl : l.length ≤ maxLen) (hal : a.length ≤ maxLen) :
    Calls Tryd.prog 43 #[.slice L l.length cL, .pointer (some ⟨g, 0, none⟩)] w fun e w' => e = .returned (.bool (!holdsP a l)) ∧ Below w.heap.size w w' := by
  have H := Lib.hid (holds_any L A cL cA l a w hr ha hl hal)
  clear hr ha hl hal
  go_enter Tryd.func43, Tryd.ntmps43
  go_wp2_with fail
  refine H.out.mono ?_
  rintro e w1 ⟨rfl, b1⟩
  have B1 := Lib.hid b1
  clear b1
  go_wp2_with fail
  go_ret
  exact ⟨rfl, B1.out⟩
def valueP (N : Int) (cs : List (List Int)) (a : List Bool) : Bool := decide (checkP N cs = 0) && cs.all (holdsP a)
set_option maxHeartbeats 1600000 in
theorem value_any (N : Int) (C A : Option Addr) (cC cA : Nat) (cs : List (List Int)) (a : List Bool) (w : World) (hr : RdL (· < w.heap.size) w C cs) (ha : Rd Value.bool (· < w.heap.size) w A a) (hl : cs.length ≤ maxLen) (hls : ∀ c ∈ cs, c.length ≤ maxLen) (hal : a.length ≤ maxLen) :
    Calls Tryd.prog 25 #[.agg #[I64 N, .slice C cs.length cC], .slice A a.length cA] w fun e w' => e = .returned (.bool (valueP N cs a)) ∧ Below w.heap.size w w' := by
  have HR := Lib.hid hr
  have HA := Lib.hid ha
  have HLs := Lib.hid hls
  have HAl := Lib.hid hal
  have HL := Lib.hid hl
  clear hr ha hls hal hl
  go_enter Tryd.func25, Tryd.ntmps25
  go_wp2_with fail
  have HB := Lib.hid (below2 w (Obj.cells #[I64 N, Value.slice C cs.length cC] 44) (Obj.cells #[Value.slice A a.length cA] 34))
  have HC := Lib.hid ((Blk.new w 44 #[I64 N, Value.slice C cs.length cC]).alloc (Obj.cells #[Value.slice A a.length cA] 34))
  have HD := Lib.hid (blk2 w (Obj.cells #[I64 N, Value.slice C cs.length cC] 44) 34 #[Value.slice A a.length cA])
  generalize hw1 : (w.alloc (Obj.cells #[I64 N, Value.slice C cs.length cC] 44)).alloc (Obj.cells #[Value.slice A a.length cA] 34) = w1 at HB HC HD ⊢
  clear hw1
  refine (check_any N C cC cs w1 (HR.out.up HB.out) HL.out HLs.out).mono ?_
  rintro e w2 ⟨rfl, b2⟩
  have B2 := Lib.hid b2
  have hc1 : w2.cell? ⟨w.heap.size, 1, none⟩ = some (.slice C cs.length cC) := (b2.cell (p := ⟨w.heap.size, 1, none⟩) HC.out.lt).trans (HC.out.cell 1)
  have HD2 := Lib.hid (show ∀ wx, Below w2.heap.size w2 wx → wx.cell? ⟨w.heap.size + 1, 0, none⟩ = some (.slice A a.length cA) from fun wx hx => ((below_up b2 hx).cell (p := ⟨w.heap.size + 1, 0, none⟩) HD.out.lt).trans (HD.out.cell 0))
  have B3 := Lib.hid (below_up HB.out b2)
  clear b2
  by_cases hz : checkP N cs = 0
  · have HV := Lib.hid (show valueP N cs a = !cs.any (fun l => !holdsP a l) by rw [valueP, decide_eq_true hz, Bool.true_and, List.all_eq_not_any_not])
    rw [hz]
    clear hz
    go_wp2_with fail
    refine (cfl_any 43 [.pointer (some ⟨w.heap.size + 1, 0, none⟩)] (fun l => !holdsP a l) C cC cs w2 (enters_of Tryd.func43 (by kernel_rfl) rfl)
      (fun c hc A' cA' wx hx hrc => value1_any A' A cA' cA (w.heap.size + 1) c a wx (HD2.out wx hx) hrc (HA.out.up (below_up B3.out hx)) (HLs.out c hc) HAl.out) (HR.out.up B3.out) HL.out).mono ?_
    rintro e w4 ⟨rfl, b4⟩
    have B4 := Lib.hid (below_up B3.out b4)
    clear b4
    go_wp2_with fail
    go_ret
    exact ⟨by rw [HV.out]; rfl, B4.out⟩
  · have HV := Lib.hid (show valueP N cs a = false by rw [valueP, decide_eq_false hz]; rfl)
    generalize checkP N cs = e at hz
    have e0 : (e == 0) = false := by simpa using hz
    clear hz
    go_wp2_with fail
    go_ret
    exact ⟨by rw [HV.out]; rfl, B3.out⟩
end Go.Proofs.YtogolfneckhnaaaDoor
