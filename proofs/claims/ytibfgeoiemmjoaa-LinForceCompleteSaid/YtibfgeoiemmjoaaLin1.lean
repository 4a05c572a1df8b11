/- Contracts of the constraint package's of, within, Check and right: for every constraint and n they return what the plain functions say. -/
import Derived.Test.YtibfgeoiemmjoaaLib1
import Derived.Test.YtibfgeoiemmjoaaLinP
namespace Go.Proofs.Ytibfgeoiemmjoaa
open Go.RowKit Go.Shelf

theorem of_any (x : Int) (w : World) (h1 : -70000 ≤ x) (h2 : x ≤ 70000) : Calls Try.prog 37 #[I64 x] w fun e w' => e = .returned (I64 (x.natAbs : Int)) ∧ w = w' := by
  by_cases h : 0 < x
  · have HR := Lib.hid (show (x.natAbs : Int) = x by omega)
    go_enter Try.func37, Try.ntmps37
    go_wp2
    go_ret
    exact ⟨by rw [HR.out]; rfl, rfl⟩
  · have HR := Lib.hid (show (x.natAbs : Int) = -x by omega)
    go_enter Try.func37, Try.ntmps37
    go_wp2
    all_goals
      go_ret
      exact ⟨by rw [HR.out]; exact ret_eq (by omega), rfl⟩
theorem within_any (c : Int) (w : World) : Calls Try.prog 48 #[I64 c] w fun e w' => e = .returned (.bool (!offN c)) ∧ w = w' := by
  by_cases h1 : c < -1099511627776
  · have e1 : decide (-1099511627776 ≤ c) = false := by simp; omega
    have HR := Lib.hid (show offN c = true by simp [offN, h1])
    go_enter Try.func48, Try.ntmps48
    go_wp2
    go_ret
    exact ⟨by rw [HR.out]; rfl, rfl⟩
  · have e1 : decide (-1099511627776 ≤ c) = true := by simp; omega
    by_cases h2 : 1099511627776 < c
    · have e2 : decide (c ≤ 1099511627776) = false := by simp; omega
      have HR := Lib.hid (show offN c = true by simp [offN, h2])
      go_enter Try.func48, Try.ntmps48
      go_wp2
      go_ret
      exact ⟨by rw [HR.out]; rfl, rfl⟩
    · have e2 : decide (c ≤ 1099511627776) = true := by simp; omega
      have HR := Lib.hid (show offN c = false by simp [offN, h1, h2])
      go_enter Try.func48, Try.ntmps48
      go_wp2
      go_ret
      exact ⟨by rw [HR.out]; rfl, rfl⟩
theorem lcheck1_any (c : Int) (w : World) : Calls Try.prog 47 #[I64 c] w fun e w' => e = .returned (.bool (offN c)) ∧ w = w' := by
  go_enter Try.func47, Try.ntmps47
  go_wp2_with fail
  refine (within_any c w).mono ?_
  rintro e w1 ⟨rfl, rfl⟩
  go_wp2_with fail
  go_ret
  exact ⟨by simp, rfl⟩
theorem check2_any (x n : Int) (g : Nat) (w : World) (hg : w.cell? ⟨g, 0, none⟩ = some (I64 n)) (hn0 : 0 ≤ n) (hn : n ≤ 65536) : Calls Try.prog 49 #[I64 x, .pointer (some ⟨g, 0, none⟩)] w fun e w' => e = .returned (.bool (wrongL n x)) ∧ w = w' := by
  by_cases h0 : x = 0
  · have e0 : (x == 0) = true := by simpa using h0
    have HR := Lib.hid (show wrongL n x = true by simp [wrongL, h0])
    clear h0
    go_enter Try.func49, Try.ntmps49
    go_wp2
    go_ret
    exact ⟨by rw [HR.out]; rfl, rfl⟩
  · have e0 : (x == 0) = false := by simpa using h0
    by_cases h1 : n < x
    · have HR := Lib.hid (show wrongL n x = true by simp [wrongL, h1])
      clear h0
      go_enter Try.func49, Try.ntmps49
      go_wp2
      go_ret
      exact ⟨by rw [HR.out]; rfl, rfl⟩
    · have e1 : decide (n < x) = false := by simpa using h1
      by_cases h2 : x < -n
      · have HR := Lib.hid (show wrongL n x = true by simp [wrongL, h2])
        clear h0
        go_enter Try.func49, Try.ntmps49
        go_wp2
        go_ret
        exact ⟨by rw [HR.out]; rfl, rfl⟩
      · have e2 : decide (x < -n) = false := by simpa using h2
        have HR := Lib.hid (show wrongL n x = false by simp [wrongL, h0, h1, h2])
        clear h0
        go_enter Try.func49, Try.ntmps49
        go_wp2
        go_ret
        exact ⟨by rw [HR.out]; rfl, rfl⟩
abbrev linV (A L : Option Addr) (cA cL : Nat) (l : LinV) : Value := .agg #[.slice A l.C.length cA, .slice L l.L.length cL, I64 l.B]
/-- a constraint's slices lie in memory -/
def LinAt (w : World) (A L : Option Addr) (l : LinV) : Prop := Rd I64 (· < w.heap.size) w A l.C ∧ Rd I64 (· < w.heap.size) w L l.L ∧ l.C.length ≤ maxLen ∧ l.L.length ≤ maxLen
theorem LinAt.up {w w' : World} {A L : Option Addr} {l : LinV} (h : LinAt w A L l) (hb : Below w.heap.size w w') : LinAt w' A L l := ⟨h.1.up hb, h.2.1.up hb, h.2.2⟩
set_option maxHeartbeats 1600000 in
theorem lcheck_any (A L : Option Addr) (cA cL : Nat) (l : LinV) (n : Int) (w : World) (h : LinAt w A L l) :
    Calls Try.prog 17 #[linV A L cA cL l, I64 n] w fun e w' => e = .returned (I64 (lcheck l n)) ∧ Below w.heap.size w w' := by
  obtain ⟨hrc, hrl, hlc, hll⟩ := h
  have HRC := Lib.hid hrc
  have HRL := Lib.hid hrl
  unfold maxLen at hlc hll
  clear hrc hrl
  by_cases h1 : n < 0
  · have HE := Lib.hid (show lcheck l n = 1 by rw [lcheck, if_pos (.inl h1)])
    go_enter Try.func17, Try.ntmps17
    go_wp2_with fail
    go_ret
    exact ⟨by rw [HE.out]; rfl, below2 w _ _⟩
  · have e1 : decide (n < 0) = false := by simpa using h1
    by_cases h2 : 65536 < n
    · have HE := Lib.hid (show lcheck l n = 1 by rw [lcheck, if_pos (.inr (.inl h2))])
      go_enter Try.func17, Try.ntmps17
      go_wp2_with fail
      go_ret
      exact ⟨by rw [HE.out]; rfl, below2 w _ _⟩
    · have e2 : decide (65536 < n) = false := by simpa using h2
      by_cases h3 : l.C.length = l.L.length
      · have e3 : ((l.C.length : Int) != (l.L.length : Int)) = false := by simp; omega
        have H3 := Lib.hid h3
        clear h3
        cases h4 : offN l.B
        · have HB := Lib.hid h4
          have HE := Lib.hid (show lcheck l n = if l.C.any offN = true ∨ l.L.any (wrongL n) = true then 1 else if 4096 < l.L.length then 2 else 0 by rw [lcheck, if_neg (by rw [h4]; have := H3.out; simp; omega)])
          clear h4
          go_enter Try.func17, Try.ntmps17
          go_wp2_with fail
          have HBw := Lib.hid (below2 w (Obj.cells #[Value.slice A l.C.length cA, Value.slice L l.L.length cL, I64 l.B] 24) (Obj.cells #[I64 n] 3))
          have HD1 := Lib.hid ((Blk.new w 24 #[Value.slice A l.C.length cA, Value.slice L l.L.length cL, I64 l.B]).alloc (Obj.cells #[I64 n] 3))
          have HD2 := Lib.hid (blk2 w (Obj.cells #[Value.slice A l.C.length cA, Value.slice L l.L.length cL, I64 l.B] 24) 3 #[I64 n])
          generalize hw1 : (w.alloc (Obj.cells #[Value.slice A l.C.length cA, Value.slice L l.L.length cL, I64 l.B] 24)).alloc (Obj.cells #[I64 n] 3) = w1 at HBw HD1 HD2 ⊢
          clear hw1
          have cf1 := cf_any 47 [] offN A cA l.C w1 (enters_of Try.func47 (by kernel_rfl) rfl) (fun x _ q => (lcheck1_any x _).mono fun _ _ ⟨h1, h2⟩ => ⟨h1, q, h2.symm⟩) (HRC.out.up HBw.out) (by unfold maxLen; omega)
          have HCF1 := Lib.hid cf1
          have HCF2 := Lib.hid (fun q => cf_any 49 [.pointer (some ⟨w.heap.size + 1, 0, none⟩)] (wrongL n) L cL l.L (w1.drewN q) (enters_of Try.func49 (by kernel_rfl) rfl)
            (fun x _ r => (check2_any x n (w.heap.size + 1) ((w1.drewN q).drewN r) (HD2.out.cell 0) (by omega) (by omega)).mono fun _ _ ⟨h1, h2⟩ => ⟨h1, r, h2.symm⟩) (HRL.out.up (below_n HBw.out q)) (by unfold maxLen; omega))
          clear cf1
          refine (lcheck1_any l.B w1).mono ?_
          rintro e w2 ⟨rfl, rfl⟩
          rw [HB.out]
          have c0 : w1.cell? ⟨w.heap.size, 0, none⟩ = some (.slice A l.C.length cA) := HD1.out.cell 0
          have c1 : w1.cell? ⟨w.heap.size, 1, none⟩ = some (.slice L l.L.length cL) := HD1.out.cell 1
          generalize l.C.any offN = bC at HCF1 HE
          go_wp2_with fail
          refine HCF1.out.mono ?_
          rintro e w3 ⟨rfl, q3, hq3⟩
          cases bC
          · have hc2 := HCF2.out q3
            rw [← hq3] at hc2
            have HC2 := Lib.hid hc2
            have d1 : w3.cell? ⟨w.heap.size, 1, none⟩ = some (.slice L l.L.length cL) := by rw [hq3]; exact HD1.out.cell 1
            have HB3 := Lib.hid (show Below w.heap.size w w3 by rw [hq3]; exact below_n HBw.out _)
            have HD3 := Lib.hid (show ∀ q, (w3.drewN q).cell? ⟨w.heap.size, 1, none⟩ = some (.slice L l.L.length cL) from fun q => by rw [hq3]; exact HD1.out.cell 1)
            clear hq3 hc2 HCF1 HCF2
            generalize l.L.any (wrongL n) = bL at HC2 HE
            go_wp2_with fail
            refine HC2.out.mono ?_
            rintro e w4 ⟨rfl, q4, hq4⟩
            have d2 : w4.cell? ⟨w.heap.size, 1, none⟩ = some (.slice L l.L.length cL) := by rw [hq4]; exact HD3.out q4
            have HB4 := Lib.hid (show Below w.heap.size w w4 by rw [hq4]; exact below_n HB3.out _)
            clear hq4
            cases bL
            · by_cases h5 : 4096 < l.L.length
              · have HE2 := Lib.hid (show lcheck l n = 2 by rw [HE.out, if_neg (by simp), if_pos h5])
                go_wp2_with fail
                go_ret
                exact ⟨by rw [HE2.out]; rfl, HB4.out⟩
              · have HE2 := Lib.hid (show lcheck l n = 0 by rw [HE.out, if_neg (by simp), if_neg h5])
                go_wp2_with fail
                go_ret
                exact ⟨by rw [HE2.out]; rfl, HB4.out⟩
            · have HE2 := Lib.hid (show lcheck l n = 1 by rw [HE.out, if_pos (.inr rfl)])
              go_wp2_with fail
              go_ret
              exact ⟨by rw [HE2.out]; rfl, HB4.out⟩
          · have HE2 := Lib.hid (show lcheck l n = 1 by rw [HE.out, if_pos (.inl rfl)])
            have HB3 := Lib.hid (show Below w.heap.size w w3 by rw [hq3]; exact below_n HBw.out _)
            clear hq3
            go_wp2_with fail
            go_ret
            exact ⟨by rw [HE2.out]; rfl, HB3.out⟩
        · have HB := Lib.hid h4
          have HE := Lib.hid (show lcheck l n = 1 by rw [lcheck, if_pos (.inr (.inr (.inr h4)))])
          clear h4
          go_enter Try.func17, Try.ntmps17
          go_wp2_with fail
          refine (lcheck1_any l.B _).mono ?_
          rintro e w2 ⟨rfl, rfl⟩
          rw [HB.out]
          go_wp2_with fail
          go_ret
          exact ⟨by rw [HE.out]; rfl, below2 w _ _⟩
      · have e3 : ((l.C.length : Int) != (l.L.length : Int)) = true := by simp; omega
        have HE := Lib.hid (show lcheck l n = 1 by rw [lcheck, if_pos (.inr (.inr (.inl h3)))])
        clear h3
        go_enter Try.func17, Try.ntmps17
        go_wp2_with fail
        go_ret
        exact ⟨by rw [HE.out]; rfl, below2 w _ _⟩
theorem right_any (A L : Option Addr) (cA cL : Nat) (l : LinV) (w : World) (h : LinAt w A L l) :
    Calls Try.prog 34 #[linV A L cA cL l] w fun e w' => e = .returned (I64 (lcheck l 65536)) ∧ Below w.heap.size w w' := by
  have H := Lib.hid h
  clear h
  go_enter Try.func34, Try.ntmps34
  go_wp2_with fail
  refine (lcheck_any A L cA cL l 65536 _ (H.out.up (below1 w _))).mono ?_
  rintro e w1 ⟨rfl, b1⟩
  have B1 := Lib.hid (below_up (below1 w _) b1)
  clear b1
  go_wp2_with fail
  go_ret
  exact ⟨rfl, B1.out⟩
end Go.Proofs.Ytibfgeoiemmjoaa
