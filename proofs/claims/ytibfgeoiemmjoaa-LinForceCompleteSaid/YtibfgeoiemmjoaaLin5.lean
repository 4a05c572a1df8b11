/- Contracts of the builder's all and each, of Norm's clamp and of cmp.Compare. -/
import Derived.Test.YtibfgeoiemmjoaaLin4
import Derived.Test.YtibfgeoiemmjoaaLinP3
import Derived.Test.YtibfgeoiemmjoaaLin2
namespace Go.Proofs.Ytibfgeoiemmjoaa
open Go.RowKit Go.Shelf
attribute [local go_sem ↓] Go.wp_at_zero Go.wp_at_succ

theorem all1_any (n c x : Int) (w : World) (h1 : -1000000000000000000 ≤ n) (h2 : n ≤ 1000000000000000000) (h3 : -1000000000000000000 ≤ c) (h4 : c ≤ 1000000000000000000) :
    Calls Try.prog 64 #[I64 n, I64 c, I64 x] w fun e w' => e = .returned (I64 (n + c)) ∧ w = w' := by
  have hw : IntKind.i64.wrap (n + c) = n + c := IntWalk.i64_in _ (by omega)
  go_enter Try.func64, Try.ntmps64
  go_wp2_with fail
  go_ret
  exact ⟨rfl, rfl⟩

theorem isNaN_any (x : Int) (w : World) : Calls Try.prog 63 #[I64 x] w fun e w' => e = .returned (.bool false) ∧ w = w' := by
  go_enter Try.func63, Try.ntmps63
  go_wp2_with fail
  go_ret
  exact ⟨by simp, rfl⟩
theorem compare_any (x y : Int) (w : World) : Calls Try.prog 40 #[I64 x, I64 y] w fun e w' => e = .returned (I64 (if x < y then -1 else if y < x then 1 else 0)) ∧ w = w' := by
  rcases Int.lt_trichotomy x y with h | h | h
  · rw [if_pos h]
    go_enter Try.func40, Try.ntmps40
    go_wp2_with (first | (go_at_call 63; refine (isNaN_any _ _).mono ?_; rintro e w1 ⟨rfl, rfl⟩))
    go_ret
    exact ⟨rfl, rfl⟩
  · subst h
    rw [if_neg (Int.lt_irrefl _), if_neg (Int.lt_irrefl _)]
    have h1 : ¬ x < x := Int.lt_irrefl _
    go_enter Try.func40, Try.ntmps40
    go_wp2_with (first | (go_at_call 63; refine (isNaN_any _ _).mono ?_; rintro e w1 ⟨rfl, rfl⟩))
    go_ret
    exact ⟨rfl, rfl⟩
  · have h1 : ¬ x < y := by omega
    rw [if_neg h1, if_pos h]
    go_enter Try.func40, Try.ntmps40
    go_wp2_with (first | (go_at_call 63; refine (isNaN_any _ _).mono ?_; rintro e w1 ⟨rfl, rfl⟩))
    go_ret
    exact ⟨rfl, rfl⟩
theorem norm2_any (q : Nat) (n b : Int) (w : World) (hq : w.cell? ⟨q, 0, none⟩ = some (I64 b)) : Calls Try.prog 44 #[I64 n, .pointer (some ⟨q, 0, none⟩)] w fun e w' => e = .returned (I64 (min n b)) ∧ w = w' := by
  go_enter Try.func44, Try.ntmps44
  go_wp2_with fail
  go_ret
  exact ⟨rfl, rfl⟩

theorem foldP_all (z : List (Int × Int)) (n : Int) : foldP (fun n c _ => n + c) z n = n + sumF1 z := by
  induction z generalizing n with
  | nil => simp [foldP, sumF1]
  | cons q t ih =>
    have := ih (n + q.1)
    unfold foldP at this ⊢
    rw [List.foldl_cons, this, sumF1]
    omega
theorem all_any (B p : Nat) (cv lv : Value) (C L : List Int) (b : Int) (wo w : World) (h : Bld B wo w p cv lv C L b) (hl : C.length = L.length) (hm : L.length ≤ 1000000)
    (hb : ∀ k, -1000000000000000 * 100 ≤ sumF1 ((C.zip L).take k) ∧ sumF1 ((C.zip L).take k) ≤ 1000000000000000 * 100) (hc : ∀ c ∈ C, -1000000000000000000 ≤ c ∧ c ≤ 1000000000000000000) :
    Calls Try.prog 42 #[.pointer (some ⟨p, 0, none⟩)] w fun e w' => e = .returned (I64 (sumF1 (C.zip L))) ∧ Below w.heap.size w w' := by
  obtain ⟨A, cA, ec, _, hrc⟩ := h.c.rd
  obtain ⟨A', cA', el, _, hrl⟩ := h.l.rd
  subst ec el
  have hA : LinAt w A A' ⟨C, L, b⟩ := ⟨hrc.mono fun g hg => h.c.lt hg, hrl.mono fun g hg => h.l.lt hg, by unfold maxLen; simp only; omega, by unfold maxLen; simp only; omega⟩
  have hst : Steps 64 [] (fun n c _ => n + c) ⟨C, L, b⟩ 0 w := fun k h1 h2 wx _ => by
    have h5 := hb k
    have h6 := hc _ (List.getElem_mem h1)
    rw [foldP_all]
    refine (all1_any (0 + sumF1 ((C.zip L).take k)) C[k] _ wx (by omega) (by omega) h6.1 h6.2).mono ?_
    rintro e w' ⟨rfl, rfl⟩
    exact ⟨rfl, Below.refl _ _⟩
  have HS := Lib.hid hst
  have HA := Lib.hid hA
  have HE := Lib.hid (show foldP (fun n c _ => n + c) (C.zip L) 0 = sumF1 (C.zip L) by rw [foldP_all]; omega)
  have c0 : w.cell? ⟨p, 0, none⟩ = some (.slice A C.length cA) := h.blk.cell 0
  have c1 : w.cell? ⟨p, 1, none⟩ = some (.slice A' L.length cA') := h.blk.cell 1
  have c2 : w.cell? ⟨p, 2, none⟩ = some (I64 b) := h.blk.cell 2
  have HL := Lib.hid hl
  clear h hst hA hb hc hrc hrl hl
  go_enter Try.func42, Try.ntmps42
  go_wp2_with fail
  refine (foldI_any 64 [] (fun n c _ => n + c) A A' cA cA' ⟨C, L, b⟩ 0 w (enters_of Try.func64 (by kernel_rfl) rfl) HS.out HA.out HL.out).mono ?_
  rintro e w1 ⟨rfl, b1⟩
  have B1 := Lib.hid b1
  clear b1
  go_wp2_with fail
  go_ret
  exact ⟨by rw [← HE.out]; rfl, B1.out⟩


theorem Bldx.setC {B : Nat} {wo w : World} {p : Nat} {x0 x1 lv : Value} {g off n cap : Nat} {C L : List Int} {b : Int} (h : Bldx B wo w p x0 x1 (.slice (some ⟨g, off, none⟩) n cap) lv C L b) {i : Nat} (hi : i < C.length) (u : Int) :
    Bldx B wo (w.setCell ⟨g, off + i, none⟩ (I64 u)) p x0 x1 (.slice (some ⟨g, off, none⟩) n cap) lv (C.set i u) L b := by
  have hg : (Value.slice (some ⟨g, off, none⟩) n cap).ownBlock = some g := rfl
  refine ⟨h.k.setCell (fun _ => .inr (h.cB g hg)) _, h.blk.far (fun e => h.c_ne (by rw [hg, e])) _, ?_, h.l.far (h.apart g hg) _, h.apart, by simpa [World.setCell] using h.wB, h.cB, h.lB⟩
  have := h.c.set_ (i := i) (by simpa using hi) (I64 u)
  rw [List.map_set]
  exact this
def mixT (t : Int → Int) (C : List Int) (i : Nat) : List Int := (C.take i).map t ++ C.drop i
theorem mixT_len (t : Int → Int) (C : List Int) (i : Nat) : (mixT t C i).length = C.length := by simp [mixT]; omega
theorem mixT_zero (t : Int → Int) (C : List Int) : mixT t C 0 = C := by simp [mixT]
theorem mixT_all (t : Int → Int) (C : List Int) : mixT t C C.length = C.map t := by simp [mixT]
theorem mixT_at (t : Int → Int) (C : List Int) (i : Nat) (h : i < C.length) : (mixT t C i)[i]'(by rw [mixT_len]; exact h) = C[i] := by
  simp only [mixT]
  rw [List.getElem_append_right (by simp; omega), List.getElem_drop]
  congr 1
  simp
  omega
theorem mixT_set (t : Int → Int) (C : List Int) (i : Nat) (h : i < C.length) : (mixT t C i).set i (t C[i]) = mixT t C (i + 1) := by
  have e : C.drop i = C[i] :: C.drop (i + 1) := List.drop_eq_getElem_cons h
  simp only [mixT]
  have h0 : i - ((C.take i).map t).length = 0 := by simp; omega
  rw [List.set_append_right _ _ (by simp; omega), h0, List.take_succ_eq_append_getElem h, e, List.set_cons_zero, List.map_append]
  simp only [List.map_cons, List.map_nil, List.append_assoc, List.cons_append, List.nil_append]
set_option maxRecDepth 100000 in
set_option maxHeartbeats 1600000 in
theorem each_any (f : Nat) (lb : List Value) (t : Int → Int) (B p : Nat) (cv lv : Value) (C L : List Int) (b : Int) (wo w : World) (h : Bld B wo w p cv lv C L b) (hm : C.length ≤ 1000000) (heg : ∀ (args : Array Value) (w : World), (callFunc f args).run Try.prog w = .ok (.enter f args) w)
    (ht : ∀ c, (c ∈ C ∨ c = b) → ∀ wx, Kp (fun k => k = p ∨ cv.ownBlock = some k) w wx → Calls Try.prog f (I64 c :: lb).toArray wx fun e w' => e = .returned (I64 (t c)) ∧ wx = w') :
    Calls Try.prog 43 #[.pointer (some ⟨p, 0, none⟩), .func (.func f) #[] lb.toArray] w fun e w' => e = .returned (.tuple #[]) ∧ Bld B wo w' p cv lv (C.map t) L (t b) ∧ Kp (fun k => k = p ∨ cv.ownBlock = some k) w w' := by
  obtain ⟨A, cA, ec, _, _⟩ := h.c.rd
  subst ec
  have H := Lib.hid h
  have HT := Lib.hid ht
  have c0 : w.cell? ⟨p, 0, none⟩ = some (.slice A C.length cA) := h.blk.cell 0
  clear h ht
  go_enter Try.func43, Try.ntmps43
  go_wp2_with fail
  clear c0
  go_loopw [4, 5, 12] (fun _ _ iv wr => ∃ i : Nat, iv = .int .i64 i ∧ i ≤ C.length ∧ Bld B wo wr p (.slice A C.length cA) lv (mixT t C i) L b ∧ Kp (fun k => k = p ∨ (Value.slice A C.length cA).ownBlock = some k) w wr) (fun _ _ iv _ => C.length - (intOf iv).toNat)
  case atStart => exact ⟨0, rfl, Nat.zero_le _, by rw [mixT_zero]; exact H.out, Kp.refl _ _⟩
  case round =>
    obtain ⟨i, rfl, hi, hbl, hkp⟩ := hrel
    have HB := Lib.hid hbl
    have HK := Lib.hid hkp
    clear hbl hkp
    by_cases hlt : i < C.length
    · obtain ⟨g, off, eA⟩ := HB.out.c.addr (by omega)
      subst eA
      have hc : wr.cell? ⟨g, off + i, none⟩ = some (I64 C[i]) := by
        have := HB.out.c.at_ (i := i) (by simp [mixT_len]; exact hlt)
        simp only [List.getElem_map, mixT_at t C i hlt] at this
        exact this.1
      have hf : wr.frozen? ⟨g, off + i, none⟩ = false := by
        have := HB.out.c.at_ (i := i) (by simp [mixT_len]; exact hlt)
        exact this.2
      have hcall := HT.out C[i] (.inl (List.getElem_mem hlt)) wr.drew HK.out.drew
      have HN := Lib.hid (HB.out.drew.setC (i := i) (by rw [mixT_len]; exact hlt) (t C[i]))
      rw [mixT_set t C i hlt] at HN
      have c0 : wr.cell? ⟨p, 0, none⟩ = some (.slice (some ⟨g, off, none⟩) C.length cA) := HB.out.blk.cell 0
      have hpg : g ≠ p := fun e => HB.out.c_ne (by rw [← e]; rfl)
      have hpg2 : p ≠ g := Ne.symm hpg
      have HK2 := Lib.hid (HK.out.drew.setCell (p := ⟨g, off + i, none⟩) (fun _ => .inr rfl) (I64 (t C[i])))
      generalize C[i] = x at hc hcall HN HK2
      have HC := Lib.hid hcall
      clear hcall
      go_wp2_with fail
      go_region_held3 (fun w' => w'.cell? ⟨p, 0, none⟩ = some (.slice (some ⟨g, off, none⟩) C.length cA)) (go_keep) (first | (refine HC.out.mono ?_; rintro e w3 ⟨rfl, rfl⟩))
      go_wp2_with fail
      go_roundw
      case rel => exact ⟨i + 1, by go_num, by omega, HN.out, HK2.out⟩
      case measure => simp [intOf]; omega
    · obtain rfl : i = C.length := by omega
      have c2 : wr.cell? ⟨p, 2, none⟩ = some (I64 b) := HB.out.blk.cell 2
      have f2 : wr.frozen? ⟨p, 2, none⟩ = false := HB.out.blk.frozen 2
      have hcall := HT.out b (.inr rfl) wr HK.out
      have HC := Lib.hid hcall
      clear hcall
      go_wp2_with fail
      refine HC.out.mono ?_
      rintro e w3 ⟨rfl, rfl⟩
      go_wp2_with fail
      go_end0
      refine ⟨rfl, ?_, HK.out.setCell (fun _ => .inl rfl) _⟩
      have := HB.out.set2 (t b)
      rw [mixT_all] at this
      exact this
end Go.Proofs.Ytibfgeoiemmjoaa
