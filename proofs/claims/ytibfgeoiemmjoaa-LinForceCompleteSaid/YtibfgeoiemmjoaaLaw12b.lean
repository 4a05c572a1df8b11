/- Contract of law 12's holds, for constraints over at most eight variables. -/
import Derived.Test.YtibfgeoiemmjoaaLaw12a
namespace Go.Proofs.Ytibfgeoiemmjoaa
open Go.RowKit Go.Shelf

theorem zip_take_snoc {C L : List Int} {k : Nat} (h1 : k < C.length) (h2 : k < L.length) : (C.zip L).take (k + 1) = (C.zip L).take k ++ [(C[k], L[k])] := by
  rw [List.take_succ_eq_append_getElem (by rw [List.length_zip]; omega), List.getElem_zip]
theorem lsum_snoc (p : Int → Bool) {C L : List Int} {k : Nat} (h1 : k < C.length) (h2 : k < L.length) : lsumZ p ((C.zip L).take (k + 1)) = lsumZ p ((C.zip L).take k) + if p L[k] then C[k] else 0 := by
  rw [zip_take_snoc h1 h2, lsumZ_app]
  simp [lsumZ]
def HoldRel (p : Int) (l : LinV) (w : World) (nv iv : Value) (wr : World) : Prop := ∃ i : Nat, iv = .int .i64 i ∧ i ≤ l.L.length ∧ nv = .int .i64 (lsumZ (bitV p) ((l.C.zip l.L).take i)) ∧ ∃ q, wr = w.drewN q
set_option maxRecDepth 100000 in
set_option maxHeartbeats 1600000 in
theorem holds12_any (A L : Option Addr) (cA cL : Nat) (l : LinV) (p : Nat) (w : World) (h : LinAt w A L l) (hl : l.C.length = l.L.length) (hn : l.L.length ≤ 60) (hx : ∀ y ∈ l.L, y ≠ 0 ∧ -8 ≤ y ∧ y ≤ 8) (hc : ∀ c ∈ l.C, -10000000000000000 ≤ c ∧ c ≤ 10000000000000000) :
    Calls Try.prog 30 #[linV A L cA cL l, .int .i64 p] w fun e w' => e = .returned (.bool (lholds (bitV p) l)) ∧ Below w.heap.size w w' := by
  have H := Lib.hid h
  have HL := Lib.hid hl
  have HX := Lib.hid hx
  have HC := Lib.hid hc
  clear h hx hc
  have hn2 : l.C.length ≤ 60 := by omega
  clear hl
  have HB := Lib.hid (below1 w (.cells #[.slice A l.C.length cA, .slice L l.L.length cL, I64 l.B] 24))
  have HD := Lib.hid (Blk.new w 24 #[.slice A l.C.length cA, .slice L l.L.length cL, I64 l.B])
  have HS := Lib.hid (show ∀ k, -600000000000000000 ≤ lsumZ (bitV p) ((l.C.zip l.L).take k) ∧ lsumZ (bitV p) ((l.C.zip l.L).take k) ≤ 600000000000000000 from fun k => by
    have hb := lsum_bd (bitV p) 10000000000000000 (by omega) ((l.C.zip l.L).take k) (fun q hq => HC.out q.1 (List.of_mem_zip (List.mem_of_mem_take hq)).1)
    have : ((l.C.zip l.L).take k).length ≤ 60 := by rw [List.length_take, List.length_zip]; omega
    omega)
  go_enter Try.func30, Try.ntmps30
  go_wp2_with fail
  generalize w.alloc (.cells #[.slice A l.C.length cA, .slice L l.L.length cL, I64 l.B] 24) = w1 at HB HD ⊢
  go_loopw [5, 6, 7] (fun nv iv _ wr => HoldRel p l w1 nv iv wr) (fun _ iv _ _ => l.L.length - (intOf iv).toNat)
  case atStart => exact ⟨0, rfl, Nat.zero_le _, rfl, 0, rfl⟩
  case round =>
    obtain ⟨i, rfl, hi, rfl, hq⟩ := hrel
    have HQ := Lib.hid hq
    have hcl := HL.out
    have f0 : wr.cell? ⟨w.heap.size, 0, none⟩ = some (.slice A l.C.length cA) := cell_q hq (HD.out.cell 0)
    have f1 : wr.cell? ⟨w.heap.size, 1, none⟩ = some (.slice L l.L.length cL) := cell_q hq (HD.out.cell 1)
    have f2 : wr.cell? ⟨w.heap.size, 2, none⟩ = some (I64 l.B) := cell_q hq (HD.out.cell 2)
    clear hq
    by_cases hlt : i < l.L.length
    · have hlt2 : i < l.C.length := by omega
      clear hcl
      obtain ⟨b, off, rfl, _, hc0⟩ := (H.out.up HB.out).2.1.at_ hlt
      obtain ⟨b', off', rfl, _, hc1⟩ := (H.out.up HB.out).1.at_ hlt2
      have d0 := cell_q HQ.out hc0
      have d1 := cell_q HQ.out hc1
      clear hc0 hc1
      have HSn := Lib.hid (lsum_snoc (bitV p) hlt2 hlt)
      have hb := HX.out l.L[i] (List.getElem_mem hlt)
      have hb2 := HC.out l.C[i] (List.getElem_mem hlt2)
      have hs1 := HS.out i
      generalize lsumZ (bitV p) ((l.C.zip l.L).take i) = n at HSn hs1 ⊢
      generalize l.L[i] = x at d0 HSn hb
      generalize l.C[i] = c at d1 HSn hb2
      obtain ⟨h0, h1, h2⟩ := hb
      obtain ⟨k, hk⟩ : ∃ k, x.natAbs = k + 1 := ⟨x.natAbs - 1, by omega⟩
      have HV := Lib.hid (show bitV p x = (tbit p k == decide (0 < x)) by rw [bitV, hk]; rfl)
      have hk8 : k < 8 := by omega
      have HK := Lib.hid hk
      clear hk
      go_wp2_with fail
      go_quiet (fail)
      rw [max_abs, HK.out]
      clear HK
      have g0 : (wr.drewN nq).cell? ⟨w.heap.size, 0, none⟩ = some (.slice (some ⟨b', off', none⟩) l.C.length cA) := f0
      have g1 : (wr.drewN nq).cell? ⟨w.heap.size, 1, none⟩ = some (.slice (some ⟨b, off, none⟩) l.L.length cL) := f1
      have g3 : (wr.drewN nq).cell? ⟨b, off + i, none⟩ = some (I64 x) := d0
      have g4 : (wr.drewN nq).cell? ⟨b', off' + i, none⟩ = some (I64 c) := d1
      clear f0 f1 f2 d0 d1
      have HQ2 := Lib.hid (drew_one HQ.out nq)
      clear HQ
      generalize wr.drewN nq = w2 at g0 g1 g3 g4 HQ2 ⊢
      have hsub : ((k + 1 : Nat) : Int) - 1 = (k : Int) := by omega
      by_cases hpos : 0 < x
      all_goals
        first | (have hp1 : decide (0 < x) = true := by simpa using hpos) | (have hp1 : decide (0 < x) = false := by simpa using hpos)
        cases ht : tbit p k
        all_goals
          rw [hp1, ht] at HV
          rw [HV.out] at HSn
          first | (have ht2 : (bits BinOp.and IntKind.i64 ((p : Int) / 2 ^ k) 1 == 1) = true := ht) | (have ht2 : (bits BinOp.and IntKind.i64 ((p : Int) / 2 ^ k) 1 == 1) = false := ht)
          clear ht
          go_wp2_with fail
          go_roundw
          case rel => exact ⟨i + 1, by go_num, by omega, by rw [HSn.out]; simp, HQ2.out⟩
          case measure => simp [intOf]; omega
    · obtain rfl : i = l.L.length := by omega
      have HE := Lib.hid (show lholds (bitV p) l = decide (l.B ≤ lsumZ (bitV p) ((l.C.zip l.L).take l.L.length)) by
        unfold lholds
        rw [List.take_of_length_le (by rw [List.length_zip]; omega)])
      clear hcl
      generalize lsumZ (bitV p) ((l.C.zip l.L).take l.L.length) = n at HE ⊢
      go_wp2_with fail
      go_ret
      exact ⟨by rw [HE.out]; rfl, below_q HB.out HQ.out⟩
end Go.Proofs.Ytibfgeoiemmjoaa
