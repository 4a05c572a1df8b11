/- Lemmas and contracts for the row. -/
import Derived.Test.YtbpbndlgfiammaaGreatDoorPkRowProofTidyD
import Derived.Test.YtbpbndlgfiammaaGreatDoorPkRowProofTidyG
import Derived.Test.YtbpbndlgfiammaaGreatDoorPkRowProofTidyT
set_option linter.unusedVariables false
set_option linter.unusedSimpArgs false
set_option linter.unnecessarySimpa false
namespace Go.Proofs.YtbpbndlgfiammaaGreatDoor.En
open Go Go.RowKit
def setM (b : List Int) (x : Int) : Option Value := if b.contains x = true then some (.bool true) else none
theorem setM_nil : setM [] = fun _ => none := by funext x; simp [setM]
theorem setM_snoc (b : List Int) (y : Int) : Go.Proofs.YtbpbndlgfiammaaGreatDoor.upd (setM b) y (Value.bool true) = setM (b ++ [y]) := by
  funext x
  unfold Go.Proofs.YtbpbndlgfiammaaGreatDoor.upd setM
  by_cases h : x = y
  · subst h; simp
  · rw [if_neg h]
    have : (b ++ [y]).contains x = b.contains x := by simp [h]
    rw [this]
theorem zeroB (w : World) : (zeroValue 4).run Tryz.prog w = .ok (.bool false) w := by
  have h := Tryz.zeroValue4
  exact h w
set_option maxRecDepth 100000 in
theorem sub1_x {W : World} {bx m : Nat} (b : List Int) (hb : W.cell? ⟨bx, 0, none⟩ = some (.map (some m))) (hm : MapI W m (setM b)) (x : Int) :
    Calls Tryz.prog 68 #[I64 x, .pointer (some ⟨bx, 0, none⟩)] W fun e w' => e = .returned (.bool (!(b.contains x))) ∧ w' = W := by
  have hlk := run_look (P := Tryz.prog) 64 3 4 (.bool false) Tryz.underlying64 Tryz.underlying3 zeroB hm x
  have HV := Lib.hid (show (setM b x).getD (.bool false) = .bool (b.contains x) by unfold setM; cases b.contains x <;> rfl)
  rw [HV.out] at hlk
  generalize b.contains x = v at hlk
  clear hm HV
  go_enter Tryz.func68, Tryz.ntmps68
  go_wp2_with fail
  go_ret
  exact ⟨rfl, rfl⟩
set_option maxRecDepth 100000 in
set_option maxHeartbeats 1000000 in
theorem sub_x {D : Nat → Prop} {W : World} (hD : ∀ k, D k → k < W.heap.size) (a b : List Int) (A B : Option Addr) (ca cb : Nat) (ha : Rd I64 D W A a) (hb : Rd I64 D W B b) (hla : a.length ≤ maxLen) (hlb : b.length ≤ maxLen) :
    Calls Tryz.prog 31 #[.slice A a.length ca, .slice B b.length cb] W fun e w' => e = .returned (.bool (!(a.any fun x => !(b.contains x)))) ∧ Below W.heap.size W w' := by
  have hlb' := hlb
  unfold maxLen at hlb
  have HB := Lib.hid (fun k (hk : k < b.length) (W' : World) (h : Below W.heap.size W W') => by
    obtain ⟨b2, o2, e2, hg2, hc2⟩ := hb (by omega)
    refine (⟨b2, o2, e2, ?_⟩ : ∃ b2 o2, B = some ⟨b2, o2, none⟩ ∧ W'.cell? ⟨b2, o2 + k, none⟩ = some (I64 (b.getD k 0)))
    rw [World.cell?_of_block (a := ⟨b2, o2 + k, none⟩) (h.block b2 (hD b2 hg2)), hc2 k hk]
    rw [List.getD_eq_getElem?_getD, List.getElem?_eq_getElem hk]
    rfl)
  have HA := Lib.hid (fun (W' : World) (h : Below W.heap.size W W') => (fun hn => by
    obtain ⟨b2, o2, e2, hg2, hc2⟩ := ha hn
    exact ⟨b2, o2, e2, hg2, fun j hj => (World.cell?_of_block (a := ⟨b2, o2 + j, none⟩) (h.block b2 (hD b2 hg2))).trans (hc2 j hj)⟩ : Rd I64 D W' A a))
  clear ha hb hD
  have hmm := @run_makeMap Tryz.prog
  go_enter Tryz.func31, Tryz.ntmps31
  go_wp2_with fail
  go_loopw [11] (fun iv wr => ∃ k : Nat, iv = .int .i64 k ∧ k ≤ b.length ∧ Below W.heap.size W wr ∧ wr.cell? ⟨W.heap.size + 1, 0, none⟩ = some (.map (some W.heap.size)) ∧ MapI wr W.heap.size (setM (b.take k))) (fun iv _ => b.length - (intOf iv).toNat)
  case atStart =>
    refine ⟨0, rfl, Nat.zero_le _, ?_, ?_, ?_⟩
    · exact ((Below.refl W.heap.size W).alloc (Nat.le_refl _) _).alloc (by simp) _
    · have h := World.alloc_heap_new (W.alloc (.map #[] 0)) (.cells #[.map (some W.heap.size)] 64)
      rw [World.size_alloc] at h
      rw [cell_of_row _ _ 0 _ _ _ h]; rfl
    · rw [show setM (b.take 0) = fun _ => none from setM_nil]
      exact (MapI.made W).kp ((Kp.refl (fun _ => False) _).alloc _) (fun h => h)
  case round =>
    obtain ⟨k, rfl, hk, hbw, hcb, hmp⟩ := hrel
    have HBW := Lib.hid hbw
    have HMP := Lib.hid hmp
    clear hbw hmp
    by_cases hlt : k < b.length
    · obtain ⟨b2, o2, rfl, hc⟩ := HB.out k hlt wr HBW.out
      have HTK := Lib.hid (show b.take (k + 1) = b.take k ++ [b.getD k 0] by
        rw [List.take_succ_eq_append_getElem hlt, List.getD_eq_getElem?_getD, List.getElem?_eq_getElem hlt]; rfl)
      generalize b.getD k 0 = x at hc HTK
      obtain ⟨w6, hr6, hm6, hg6, hz6⟩ := run_upd (P := Tryz.prog) 64 3 4 Tryz.underlying64 Tryz.underlying3 HMP.out x (.bool true)
      rw [setM_snoc, ← HTK.out] at hm6
      have HM6 := Lib.hid hm6
      have HB6 := Lib.hid (show Below W.heap.size W w6 from HBW.out.grown hg6 HBW.out.size (fun g e => by injection e with e; omega))
      have HC6 := Lib.hid (show w6.cell? ⟨W.heap.size + 1, 0, none⟩ = some (.map (some W.heap.size)) from by
        have hlt6 := World.block_lt_of_cell? wr _ hcb
        rw [World.cell?_of_block (hg6.block _ hlt6 (by simp))]
        exact hcb)
      clear hm6 hg6 hz6
      go_wp2_with fail
      go_roundw
      case rel => exact ⟨k + 1, by go_num, hlt, HB6.out, HC6.out, HM6.out⟩
      case measure => simp [intOf]; omega
    · obtain rfl : k = b.length := by omega
      rw [List.take_length] at HMP
      have HCF := Lib.hid (cf_any 68 [.pointer (some ⟨W.heap.size + 1, 0, none⟩)] (fun x => !(b.contains x)) A ca a wr (run_enters Tryz.func68 (by kernel_rfl) rfl)
        (fun x _ n => (sub1_x b (show (wr.drewN n).cell? _ = _ from hcb) (HMP.out.kp ((Kp.refl (fun _ => False) wr).drewN n) (fun h => h)) x).mono fun e w' h => ⟨h.1, n, h.2⟩) (HA.out wr HBW.out) hla)
      obtain ⟨r, hr⟩ : ∃ r, r = a.any fun x => !(b.contains x) := ⟨_, rfl⟩
      have HR := Lib.hid hr
      rw [← hr] at HCF
      clear hr
      go_wp2_with fail
      refine HCF.out.mono ?_
      rintro e w7 ⟨rfl, q, rfl⟩
      go_wp2_with fail
      go_ret
      exact ⟨by rw [← HR.out]; rfl, ⟨HBW.out.os, HBW.out.tape, HBW.out.output, HBW.out.size, HBW.out.block⟩⟩
def sSub1 : CtF1
  | [.im (.ls (.ints a)), .im (.ls (.ints b))] => some (a.length ≤ maxLen ∧ b.length ≤ maxLen, .bool (!(a.any fun x => !(b.contains x))))
  | _ => none
theorem sSub1_sound : Sound1G Tryz.prog 31 sSub1 := by
  refine ⟨run_enters Tryz.func31 (by kernel_rfl) rfl, fun W G args vs p r hG hgl hσ hp hd => ?_⟩
  unfold sSub1 at hσ
  split at hσ
  · rename_i a b
    injection hσ with hσ
    injection hσ with h1 h2
    subst h1 h2
    simp only [DenL, Den] at hd
    obtain ⟨v1, vs1, rfl, hr1, v2, vs2, rfl, hr2, rfl⟩ := hd
    obtain ⟨A, ca, rfl, _, ha⟩ := rd_of_ints hr1
    obtain ⟨B, cb, rfl, _, hb⟩ := rd_of_ints hr2
    refine Calls.mono (sub_x hG a b A B ca cb ha hb hp.1 hp.2) fun e w' he => ?_
    obtain ⟨rfl, hbw⟩ := he
    exact ⟨_, rfl, hbw, by simp only [Den]; exact .val _⟩
  · cases hσ
def sSub : CtF := sSub1.up
theorem sSub_sound : Sound Tryz.prog 31 sSub := sSub1_sound.up
end Go.Proofs.YtbpbndlgfiammaaGreatDoor.En
