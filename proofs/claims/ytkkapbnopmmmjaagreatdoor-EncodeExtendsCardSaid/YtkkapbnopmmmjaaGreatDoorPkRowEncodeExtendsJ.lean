/- Lemmas and contracts for the row. -/
import Derived.Test.YtkkapbnopmmmjaaGreatDoorPkRowEncodeExtendsF
import Derived.Deep.RegionHeld3
import Derived.Deep.DrawnRows
set_option linter.unusedVariables false
set_option linter.unusedSimpArgs false
set_option linter.unnecessarySimpa false
namespace Go.Proofs.YtkkapbnopmmmjaaGreatDoor
open Go.RowKit Go.Shelf
def foldP (st : Int → Int → Int → Int) (z : List (Int × Int)) (a0 : Int) : Int := z.foldl (fun a q => st a q.1 q.2) a0
theorem foldP_snoc (st : Int → Int → Int → Int) (C L : List Int) (a0 : Int) (k : Nat) (h1 : k < C.length) (h2 : k < L.length) : foldP st ((C.zip L).take (k + 1)) a0 = st (foldP st ((C.zip L).take k) a0) C[k] L[k] := by
  have hz : k < (C.zip L).length := by rw [List.length_zip]; omega
  unfold foldP
  rw [List.take_succ_eq_append_getElem hz, List.foldl_append, List.getElem_zip]
  rfl
def Steps (f : Nat) (lb : List Value) (st : Int → Int → Int → Int) (l : LinV) (a0 : Int) (w : World) : Prop :=
  ∀ (k : Nat) (h1 : k < l.C.length) (h2 : k < l.L.length) wx, Below w.heap.size w wx → Calls Tryz.prog f (I64 (foldP st ((l.C.zip l.L).take k) a0) :: I64 l.C[k] :: I64 l.L[k] :: lb).toArray wx fun e w' => e = .returned (I64 (st (foldP st ((l.C.zip l.L).take k) a0) l.C[k] l.L[k])) ∧ Below wx.heap.size wx w'
set_option maxHeartbeats 1600000 in
theorem foldI_any (f : Nat) (lb : List Value) (st : Int → Int → Int → Int) (A L : Option Addr) (cA cL : Nat) (l : LinV) (a0 : Int) (w : World) (heg : ∀ (args : Array Value) (w : World), (callFunc f args).run Tryz.prog w = .ok (.enter f args) w)
    (hs : Steps f lb st l a0 w) (h : LinAt w A L l) (hlen : l.C.length = l.L.length) :
    Calls Tryz.prog 50 #[linV A L cA cL l, I64 a0, .func (.func f) #[] lb.toArray] w fun e w' => e = .returned (I64 (foldP st (l.C.zip l.L) a0)) ∧ Below w.heap.size w w' := by
  obtain ⟨hrc, hrl, hlc, hll⟩ := h
  have HRC := Lib.hid hrc
  have HRL := Lib.hid hrl
  have HS := Lib.hid hs
  have hle1 : l.C.length ≤ l.L.length := by omega
  have hle2 : l.L.length ≤ l.C.length := by omega
  unfold maxLen at hlc hll
  clear hrc hrl hs hlen
  go_enter Tryz.func50, Tryz.ntmps50
  go_wp2_with fail
  have HBw := Lib.hid (below1 w (Obj.cells #[Value.slice A l.C.length cA, Value.slice L l.L.length cL, I64 l.B] 24))
  have HD1 := Lib.hid (Blk.new w 24 #[Value.slice A l.C.length cA, Value.slice L l.L.length cL, I64 l.B])
  generalize hw1 : w.alloc (Obj.cells #[Value.slice A l.C.length cA, Value.slice L l.L.length cL, I64 l.B] 24) = w1 at HBw HD1 ⊢
  clear hw1
  go_loopw [1, 7, 8, 12] (fun av _ _ iv wr => ∃ i : Nat, iv = .int .i64 i ∧ i ≤ l.L.length ∧ av = I64 (foldP st ((l.C.zip l.L).take i) a0) ∧ Below w1.heap.size w1 wr) (fun _ _ _ iv _ => l.L.length - (intOf iv).toNat)
  case atStart => exact ⟨0, rfl, Nat.zero_le _, rfl, Below.refl _ _⟩
  case round =>
    obtain ⟨i, rfl, hi, rfl, hbel⟩ := hrel
    have HBel := Lib.hid hbel
    clear hbel
    by_cases hlt : i < l.L.length
    · have hlt2 : i < l.C.length := by omega
      have hb2 := below_up HBw.out HBel.out
      obtain ⟨ab, ao, eA, _, ca⟩ := (HRC.out.up hb2).at_ hlt2
      obtain ⟨bb, bo, eL, _, cb⟩ := (HRL.out.up hb2).at_ hlt
      have hst := HS.out i hlt2 hlt wr hb2
      have HSn := Lib.hid (foldP_snoc st l.C l.L a0 i hlt2 hlt)
      have c0 : wr.cell? ⟨w.heap.size, 0, none⟩ = some (.slice A l.C.length cA) := (HBel.out.cell (p := ⟨w.heap.size, 0, none⟩) HD1.out.lt).trans (HD1.out.cell 0)
      subst eA eL
      generalize l.C[i] = c at ca hst HSn
      generalize l.L[i] = x at cb hst HSn
      generalize foldP st ((l.C.zip l.L).take i) a0 = acc at hst HSn
      have HSt := Lib.hid hst
      clear hst hb2
      go_wp2_with fail
      refine HSt.out.mono ?_
      rintro e w3 ⟨rfl, b3⟩
      have B3 := Lib.hid (below_up HBel.out b3)
      clear b3
      go_wp2_with fail
      go_roundw
      case rel => exact ⟨i + 1, by go_num, by omega, by rw [HSn.out], B3.out⟩
      case measure => simp [intOf]; omega
    · obtain rfl : i = l.L.length := by omega
      have HT := Lib.hid (show (l.C.zip l.L).take l.L.length = l.C.zip l.L from List.take_of_length_le (by rw [List.length_zip]; omega))
      go_wp2_with fail
      go_ret
      exact ⟨by rw [HT.out]; rfl, below_up HBw.out HBel.out⟩
def valSt (a : List Bool) (n c x : Int) : Int := if lval a x then n + c else n
theorem valSt_sum (a : List Bool) : ∀ (z : List (Int × Int)) (n : Int), foldP (valSt a) z n = n + lsumZ (lval a) z
  | [], n => by simp [foldP, lsumZ]
  | q :: z, n => by
    have ih := valSt_sum a z (valSt a n q.1 q.2)
    unfold foldP at ih ⊢
    rw [List.foldl_cons, ih]
    simp only [lsumZ, valSt]
    split <;> omega
set_option maxHeartbeats 1600000 in
theorem lvalue1_any {D : Nat → Prop} (n c x : Int) (g : Nat) (A : Option Addr) (cA : Nat) (a : List Bool) (w : World) (hg : w.cell? ⟨g, 0, none⟩ = some (.slice A a.length cA)) (ha : Rd Value.bool D w A a) (_hal : a.length ≤ maxLen)
    (hx1 : -65536 ≤ x) (hx2 : x ≤ 65536) (hn1 : -1000000000000000000 ≤ n) (hn2 : n ≤ 1000000000000000000) (hc1 : -1099511627776 ≤ c) (hc2 : c ≤ 1099511627776) :
    Calls Tryz.prog 51 #[I64 n, I64 c, I64 x, .pointer (some ⟨g, 0, none⟩)] w fun e w' => e = .returned (I64 (valSt a n c x)) ∧ w = w' := by
  unfold maxLen at _hal
  have HA := Lib.hid ha
  clear ha
  have HE := Lib.hid (show valSt a n c x = if ((decide (x.natAbs < a.length) && a.getD x.natAbs false) == decide (0 < x)) = true then n + c else n from rfl)
  by_cases hv : x.natAbs < a.length
  · obtain ⟨ab, ao, eA, _, ca⟩ := HA.out.at_ hv
    have hgd : a.getD x.natAbs false = a[x.natAbs] := by rw [List.getD_eq_getElem?_getD, List.getElem?_eq_getElem hv]; rfl
    have HR := Lib.hid (show valSt a n c x = if (a.getD x.natAbs false == decide (0 < x)) = true then n + c else n by rw [HE.out, decide_eq_true hv, Bool.true_and])
    rw [hgd] at HR
    subst eA
    generalize a[x.natAbs] = t at ca HR
    have HLF := Lib.hid (fun W => of_any x W (by omega) (by omega))
    clear hgd HE
    generalize hvv : x.natAbs = v at hv ca HLF
    clear hvv
    by_cases hp : 0 < x
    · have e1 : decide (0 < x) = true := by simpa using hp
      rw [e1] at HR
      cases t
      · go_enter Tryz.func51, Tryz.ntmps51
        go_wp2_with fail
        refine (HLF.out _).mono ?_
        rintro e w1 ⟨rfl, rfl⟩
        go_wp2_with fail
        go_ret
        exact ⟨by rw [HR.out]; rfl, rfl⟩
      · go_enter Tryz.func51, Tryz.ntmps51
        go_wp2_with fail
        refine (HLF.out _).mono ?_
        rintro e w1 ⟨rfl, rfl⟩
        go_wp2_with fail
        go_ret
        exact ⟨by rw [HR.out]; rfl, rfl⟩
    · have e1 : decide (0 < x) = false := by simpa using hp
      rw [e1] at HR
      cases t
      · go_enter Tryz.func51, Tryz.ntmps51
        go_wp2_with fail
        refine (HLF.out _).mono ?_
        rintro e w1 ⟨rfl, rfl⟩
        go_wp2_with fail
        go_ret
        exact ⟨by rw [HR.out]; rfl, rfl⟩
      · go_enter Tryz.func51, Tryz.ntmps51
        go_wp2_with fail
        refine (HLF.out _).mono ?_
        rintro e w1 ⟨rfl, rfl⟩
        go_wp2_with fail
        go_ret
        exact ⟨by rw [HR.out]; rfl, rfl⟩
  · have HR := Lib.hid (show valSt a n c x = if (false == decide (0 < x)) = true then n + c else n by rw [HE.out, decide_eq_false hv, Bool.false_and])
    have HLF := Lib.hid (fun W => of_any x W (by omega) (by omega))
    clear HE
    generalize hvv : x.natAbs = v at hv HLF
    have e2 : decide (v < a.length) = false := by simpa using hv
    clear hvv
    by_cases hp : 0 < x
    · have e1 : decide (0 < x) = true := by simpa using hp
      rw [e1] at HR
      go_enter Tryz.func51, Tryz.ntmps51
      go_wp2_with fail
      refine (HLF.out _).mono ?_
      rintro e w1 ⟨rfl, rfl⟩
      go_wp2_with fail
      go_ret
      exact ⟨by rw [HR.out]; rfl, rfl⟩
    · have e1 : decide (0 < x) = false := by simpa using hp
      rw [e1] at HR
      go_enter Tryz.func51, Tryz.ntmps51
      go_wp2_with fail
      refine (HLF.out _).mono ?_
      rintro e w1 ⟨rfl, rfl⟩
      go_wp2_with fail
      go_ret
      exact ⟨by rw [HR.out]; rfl, rfl⟩
theorem below_drew {B : Nat} {w w1 : World} (h : Below B w w1) : Below B w w1.drew := ⟨h.os, h.tape, h.output, h.size, h.block⟩
theorem lsum_bd (p : Int → Bool) (M : Int) (hM : 0 ≤ M) : ∀ z : List (Int × Int), (∀ q ∈ z, -M ≤ q.1 ∧ q.1 ≤ M) → -(M * z.length) ≤ lsumZ p z ∧ lsumZ p z ≤ M * z.length
  | [], _ => by simp [lsumZ]
  | q :: t, h => by
    obtain ⟨a, b⟩ := lsum_bd p M hM t (fun u hu => h u (by simp [hu]))
    obtain ⟨c, d⟩ := h q (by simp)
    have e : M * ((t.length + 1 : Nat) : Int) = M * t.length + M := by rw [Int.natCast_add, Int.mul_add]; simp
    simp only [lsumZ, List.length_cons]
    rw [e]
    split <;> omega
set_option maxRecDepth 100000 in
set_option maxHeartbeats 1600000 in
theorem lvalue_any (A L T : Option Addr) (cA cL cT : Nat) (l : LinV) (a : List Bool) (w : World) (h : LinAt w A L l) (ha : Rd Value.bool (· < w.heap.size) w T a) (hal : a.length ≤ maxLen) :
    Calls Tryz.prog 21 #[linV A L cA cL l, .slice T a.length cT] w fun e w' => e = .returned (.bool (lvalue l a)) ∧ Below w.heap.size w w' := by
  have H := Lib.hid h
  have HA := Lib.hid ha
  have HAl := Lib.hid hal
  clear h ha hal
  go_enter Tryz.func21, Tryz.ntmps21
  go_wp2_with fail
  have HBw := Lib.hid (below2 w (Obj.cells #[Value.slice A l.C.length cA, Value.slice L l.L.length cL, I64 l.B] 24) (Obj.cells #[Value.slice T a.length cT] 35))
  have HD1 := Lib.hid ((Blk.new w 24 #[Value.slice A l.C.length cA, Value.slice L l.L.length cL, I64 l.B]).alloc (Obj.cells #[Value.slice T a.length cT] 35))
  have HD2 := Lib.hid (blk2 w (Obj.cells #[Value.slice A l.C.length cA, Value.slice L l.L.length cL, I64 l.B] 24) 35 #[Value.slice T a.length cT])
  generalize hw1 : (w.alloc (Obj.cells #[Value.slice A l.C.length cA, Value.slice L l.L.length cL, I64 l.B] 24)).alloc (Obj.cells #[Value.slice T a.length cT] 35) = w1 at HBw HD1 HD2 ⊢
  clear hw1
  refine (right_any A L cA cL l w1 (H.out.up HBw.out)).mono ?_
  rintro e w2 ⟨rfl, b2⟩
  have B2 := Lib.hid b2
  have B3 := Lib.hid (below_up HBw.out b2)
  clear b2
  by_cases hz : lcheck l 65536 = 0
  · obtain ⟨_, _, k1, k2, k3, k4, k5⟩ := lcheck_ok hz
    have HV := Lib.hid (show lvalue l a = decide (l.B ≤ foldP (valSt a) (l.C.zip l.L) 0) by rw [lvalue, decide_eq_true hz, Bool.true_and, lholds, valSt_sum, Int.zero_add])
    rw [hz]
    have HST := Lib.hid (show ∀ wx, Below w2.heap.size w2 wx → Steps 51 [.pointer (some ⟨w.heap.size + 1, 0, none⟩)] (valSt a) l 0 wx from fun wx hx k h1 h2 wy hy => by
      have hbd := lsum_bd (lval a) 1099511627776 (by decide) ((l.C.zip l.L).take k) (fun q hq => k3 q.1 (List.of_mem_zip (List.mem_of_mem_take hq)).1)
      have hlk : ((l.C.zip l.L).take k).length ≤ 4096 := by rw [List.length_take, List.length_zip]; omega
      have hc := k3 l.C[k] (List.getElem_mem h1)
      have hx1 := k4 l.L[k] (List.getElem_mem h2)
      have hxy := below_up hx hy
      refine (lvalue1_any (D := (· < wy.heap.size)) _ l.C[k] l.L[k] (w.heap.size + 1) T cT a wy (((below_up B2.out hxy).cell (p := ⟨w.heap.size + 1, 0, none⟩) HD2.out.lt).trans (HD2.out.cell 0)) ((HA.out.up B3.out).up hxy) HAl.out (by omega) (by omega) ?_ ?_ (by omega) (by omega)).mono fun e w' ⟨e1, e2⟩ => ⟨e1, by rw [← e2]; exact Below.refl _ _⟩
      · rw [valSt_sum]; omega
      · rw [valSt_sum]; omega)
    have HF := Lib.hid (show ∀ wx, Below w2.heap.size w2 wx → Calls Tryz.prog 50 #[linV A L cA cL l, I64 0, .func (.func 51) #[] #[.pointer (some ⟨w.heap.size + 1, 0, none⟩)]] wx fun e w' => e = .returned (I64 (foldP (valSt a) (l.C.zip l.L) 0)) ∧ Below wx.heap.size wx w' from fun wx hx =>
      foldI_any 51 [.pointer (some ⟨w.heap.size + 1, 0, none⟩)] (valSt a) A L cA cL l 0 wx (enters_of Tryz.func51 (by kernel_rfl) rfl) (HST.out wx hx) ((H.out.up B3.out).up hx) k1)
    have HC := Lib.hid (show ∀ wx, Below w2.heap.size w2 wx → wx.cell? ⟨w.heap.size, 0, none⟩ = some (.slice A l.C.length cA) ∧ wx.cell? ⟨w.heap.size, 1, none⟩ = some (.slice L l.L.length cL) ∧ wx.cell? ⟨w.heap.size, 2, none⟩ = some (I64 l.B) from fun wx hx =>
      have hb := below_up B2.out hx
      ⟨(hb.cell (p := ⟨w.heap.size, 0, none⟩) HD1.out.lt).trans (HD1.out.cell 0), (hb.cell (p := ⟨w.heap.size, 1, none⟩) HD1.out.lt).trans (HD1.out.cell 1), (hb.cell (p := ⟨w.heap.size, 2, none⟩) HD1.out.lt).trans (HD1.out.cell 2)⟩)
    clear hz k1 k2 k3 k4 k5 HST
    obtain ⟨c0, c1, c2⟩ := HC.out w2 (Below.refl _ _)
    go_wp2_with fail
    go_region_held3 (fun w' => w'.cell? ⟨w.heap.size, 0, none⟩ = some (.slice A l.C.length cA) ∧ w'.cell? ⟨w.heap.size, 1, none⟩ = some (.slice L l.L.length cL) ∧ w'.cell? ⟨w.heap.size, 2, none⟩ = some (I64 l.B))
      (first | go_keep | (exact HC.out _ B5.out))
      (first | (go_at_call 50; refine (HF.out _ (below_drew (Below.refl _ _))).mono ?_; rintro e w5 ⟨rfl, b5⟩; have B5 := Lib.hid (below_up (below_drew (Below.refl _ _)) b5); clear b5))
    all_goals
      go_wp2_with fail
      go_ret
      exact ⟨by rw [HV.out]; rfl, below_up B3.out B5.out⟩
  · have HV := Lib.hid (show lvalue l a = false by rw [lvalue, decide_eq_false hz]; rfl)
    generalize lcheck l 65536 = e at hz
    have e0 : (e != 0) = true := by simpa using hz
    clear hz
    go_wp2_with fail
    go_ret
    exact ⟨by rw [HV.out]; rfl, B3.out⟩
end Go.Proofs.YtkkapbnopmmmjaaGreatDoor
