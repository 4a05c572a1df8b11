/- Contracts of the law's own helpers truths and number: for the sizes at which the laws call them. -/
import Derived.Test.YtogolfneckhnaaaDoorCnfLit
import Derived.Test.YtogolfneckhnaaaDoorLive17b
namespace Go.Proofs.YtogolfneckhnaaaDoor
open Go.RowKit Go.Shelf

theorem info_bool : (Tryd.prog.info? 4).map (fun i => (i.zero, i.size, i.bytes)) = some (some (.bool false), 1, 1) := by kernel_rfl
/-- bit j of a number, as the program takes it -/
def tbit (p : Int) (j : Nat) : Bool := bits BinOp.and IntKind.i64 (p / 2 ^ j) 1 == 1
def truthsP (n : Nat) (p : Int) : List Bool := false :: (List.range n).map (tbit p)
theorem truthsP_len (n : Nat) (p : Int) : (truthsP n p).length = n + 1 := by simp [truthsP]
theorem truthsP_succ (n : Nat) (p : Int) : (truthsP (n + 1) p).map Value.bool = (truthsP n p).map Value.bool ++ [.bool (tbit p n)] := by
  simp [truthsP, List.range_succ]
def TrRel (w : World) (p : Int) (n : Nat) (av vv : Value) (wr : World) : Prop :=
  ∃ k : Nat, vv = .int .i64 (k + 1 : Nat) ∧ k ≤ n ∧ Own wr 4 av ((truthsP k p).map Value.bool) ∧ (∀ g, av.ownBlock = some g → w.heap.size ≤ g) ∧ Below w.heap.size w wr

theorem own_new1 (w : World) (e : TypeId) (v : Value) : Own (w.alloc (.cells #[v] e)) e (.slice (some ⟨w.heap.size, 0, none⟩) 1 1) [v] :=
  .inr ⟨w.heap.size, 0, 1, #[v], rfl, heap_alloc_new w _, Nat.le_refl _, by unfold maxLen; decide, Nat.le_refl _, fun j h => by
    have : j = 0 := by simpa using h
    subst this; rfl⟩

set_option maxHeartbeats 1600000 in
theorem truths_any (n : Nat) (p : Int) (w : World) (hn : n ≤ 62) :
    Calls Tryd.prog 19 #[I64 (n : Int), I64 p] w fun e w' => ∃ A c, e = .returned (.slice A (n + 1) c) ∧ Rd Value.bool (· < w'.heap.size) w' A (truthsP n p) ∧ Below w.heap.size w w' := by
  obtain ⟨i0, hi, hz0, hz1, hz2⟩ := info_parts info_bool
  have HI := Lib.hid (And.intro hi (And.intro hz0 (And.intro hz1 hz2)))
  clear hi hz0 hz1 hz2
  go_enter Tryd.func19, Tryd.ntmps19
  go_wp2_with fail
  go_loopw [5, 6] (fun av vv wr => TrRel w p n av vv wr) (fun _ vv _ => n + 1 - (intOf vv).toNat)
  case atStart => exact ⟨0, rfl, Nat.zero_le _, own_new1 w _ _, fun g h => by simp [Value.ownBlock] at h; omega, (Below.refl _ _).alloc (Nat.le_refl _) _⟩
  case round =>
    obtain ⟨k, rfl, hk, how, hgs, hbel⟩ := hrel
    have HOw := Lib.hid how
    have HGs := Lib.hid hgs
    have HBel := Lib.hid hbel
    clear how hgs hbel
    by_cases hlt : k < n
    · have HLn := Lib.hid (show ((truthsP k p).map Value.bool).length = k + 1 by rw [List.length_map, truthsP_len])
      have HS := Lib.hid (truthsP_succ k p)
      generalize (truthsP k p).map Value.bool = vs at HOw HLn HS
      have hsub : ((k + 1 : Nat) : Int) - 1 = (k : Int) := by omega
      have hcd : ((k + 1 : Nat) : Int) ≤ (n : Int) := by omega
      go_wp2_with (at_builtin; refine wpList_push _ rfl (.tmp 13) (.tmp 21) 34 rfl 4 i0 (.bool false) 1 Tryd.underlying34 HI.out.1 HI.out.2.1 HI.out.2.2.1 HI.out.2.2.2 rfl _ vs (k + 1) HLn.out rfl (HOw.out.alloc _) ⟨wr.heap.size, 0, none⟩ 1 (.bool (tbit p k)) rfl ?c1 rfl ?c2 ?c3 ?_)
      case c1 => simp [tbit]
      case c2 => unfold maxLen; omega
      case c3 => omega
      intro g2 o2 cp2 w5 hown5 hg5 hat5
      have hk5 := least_push (o2 := o2) (n := k + 1 + 1) (cp2 := cp2) HGs.out HBel.out hg5 hat5
      have HOw5 := Lib.hid hown5
      have HK5 := Lib.hid hk5
      clear hown5 hg5 hat5 hk5 hsub
      go_wp2_with fail
      go_roundw
      case rel => exact ⟨k + 1, by go_num, by omega, by rw [HS.out]; exact HOw5.out, HK5.out.1, HK5.out.2⟩
      case measure => simp [intOf]; omega
    · obtain rfl : k = n := by omega
      obtain ⟨A, c, ea, _, hrd⟩ := HOw.out.rd
      have HRd := Lib.hid (hrd.mono (fun b hb => HOw.out.lt hb))
      rw [truthsP_len] at ea
      subst ea
      clear hrd HOw
      go_wp2_with fail
      go_ret
      exact ⟨A, c, rfl, HRd.out, HBel.out⟩
theorem holds_one (g : Nat) (x : Int) (A : Option Addr) (cA : Nat) (a : List Bool) (w : World) (hb : Blk w g 3 #[I64 x]) (ha : Rd Value.bool (· < w.heap.size) w A a) (hal : a.length ≤ maxLen) :
    Calls Tryd.prog 20 #[.slice (some ⟨g, 0, none⟩) 1 1, .slice A a.length cA] w fun e w' => e = .returned (.bool (litT a x)) ∧ Below w.heap.size w w' := by
  have h := holds_any (some ⟨g, 0, none⟩) A 1 cA [x] a w (rd_blk hb rfl hb.lt) ha (by unfold maxLen; simp) hal
  have e1 : holdsP a [x] = litT a x := by simp [holdsP]
  rw [e1] at h
  exact h
theorem num_step (nn i : Nat) (h : nn + 2 ^ i ≤ 9223372036854775807) : Value.int IntKind.i64 (wrap64 ((nn : Int) + wrap64 (2 ^ i))) = Value.int IntKind.i64 ((nn + 2 ^ i : Nat) : Int) := by
  have e : ((2 : Int) ^ i) = ((2 ^ i : Nat) : Int) := by simp
  rw [e]
  generalize 2 ^ i = m at h
  rw [IntWalk.wrap64_in (m : Int) (by omega), IntWalk.wrap64_in _ (by omega)]
  congr 1
def numTo (bits : List Int) (a : List Bool) (m : Nat) : Nat := numB (bvOf bits a) m
set_option maxHeartbeats 1600000 in
theorem number_any (L A : Option Addr) (cL cA : Nat) (l : List Int) (a : List Bool) (w : World) (hr : Rd I64 (· < w.heap.size) w L l) (ha : Rd Value.bool (· < w.heap.size) w A a) (hl : l.length ≤ 60) (hal : a.length ≤ 100000) :
    Calls Tryd.prog 21 #[.slice L l.length cL, .slice A a.length cA] w fun e w' => e = .returned (I64 ((numB (bvOf l a) l.length : Nat) : Int)) ∧ Below w.heap.size w w' := by
  have HR := Lib.hid hr
  have HA := Lib.hid ha
  clear hr ha
  go_enter Tryd.func21, Tryd.ntmps21
  go_wp2_with fail
  go_loopw [5, 6] (fun nv iv wr => ∃ i : Nat, iv = .int .i64 i ∧ i ≤ l.length ∧ nv = .int .i64 (numB (bvOf l a) i : Nat) ∧ Below w.heap.size w wr) (fun _ iv _ => l.length - (intOf iv).toNat)
  case atStart => exact ⟨0, rfl, Nat.zero_le _, rfl, Below.refl _ _⟩
  case round =>
    obtain ⟨i, rfl, hi, rfl, hbel⟩ := hrel
    have HBel := Lib.hid hbel
    clear hbel
    have hnl := numB_lt (bvOf l a) i
    have hpw : 2 ^ i ≤ 2 ^ 60 := Nat.pow_le_pow_right (by decide) (by omega)
    by_cases hlt : i < l.length
    · obtain ⟨ab, ao, rfl, _, ca⟩ := (HR.out.below HBel.out).at_ hlt
      have hgd : l.getD i 0 = l[i] := by rw [List.getD_eq_getElem?_getD, List.getElem?_eq_getElem hlt]; rfl
      have HS := Lib.hid (show numB (bvOf l a) (i + 1) = numB (bvOf l a) i + if litT a l[i] then 2 ^ i else 0 by rw [numB, bvOf, hgd])
      have hpw2 : 2 ^ i ≤ 2 ^ 59 := Nat.pow_le_pow_right (by decide) (by omega)
      generalize l[i] = x at ca HS
      generalize numB (bvOf l a) i = nn at hnl HS
      by_cases hx : x = 0
      · have e0 : (x != 0) = false := by simpa using hx
        have HS2 := Lib.hid (show numB (bvOf l a) (i + 1) = nn by rw [HS.out, hx, litT_zero]; rfl)
        clear hx HS
        go_wp2_with fail
        go_roundw
        case rel => exact ⟨i + 1, by go_num, by omega, by rw [HS2.out], HBel.out⟩
        case measure => simp [intOf]; omega
      · have e0 : (x != 0) = true := by simpa using hx
        clear hx
        go_wp2_with fail
        refine (holds_one wr.heap.size x A cA a _ (Blk.new wr _ _) ((HA.out.up HBel.out).up (below1 wr _)) (by unfold maxLen; omega)).mono ?_
        rintro e w3 ⟨rfl, b3⟩
        have B3 := Lib.hid (below_up HBel.out (below_up (below1 wr _) b3))
        clear b3
        generalize litT a x = t at HS
        cases t
        · have HS2 := Lib.hid (show numB (bvOf l a) (i + 1) = nn by rw [HS.out]; rfl)
          clear HS
          go_wp2_with fail
          go_roundw
          case rel => exact ⟨i + 1, by go_num, by omega, by rw [HS2.out], B3.out⟩
          case measure => simp [intOf]; omega
        · have HS2 := Lib.hid (show numB (bvOf l a) (i + 1) = nn + 2 ^ i by rw [HS.out]; rfl)
          clear HS
          go_wp2_with fail
          go_roundw
          case rel => exact ⟨i + 1, by go_num, by omega, by rw [HS2.out]; exact num_step nn i (by omega), B3.out⟩
          case measure => simp [intOf]; omega
    · obtain rfl : i = l.length := by omega
      go_wp2_with fail
      go_ret
      exact ⟨rfl, HBel.out⟩
end Go.Proofs.YtogolfneckhnaaaDoor
