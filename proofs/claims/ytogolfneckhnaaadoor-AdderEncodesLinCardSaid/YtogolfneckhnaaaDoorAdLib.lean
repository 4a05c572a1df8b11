/- Contracts of the library functions that the adder calls: slices.Clone at ints, math/bits.TrailingZeros, math/bits.OnesCount below eight. -/
import Derived.Test.YtogolfneckhnaaaDoorAdLeaf
namespace Go.Proofs.YtogolfneckhnaaaDoor
open Go.RowKit

set_option maxHeartbeats 400000 in
theorem clone_any {D : Nat → Prop} (b off c : Nat) (l : List Int) (w : World) (h : Rd I64 D w (some ⟨b, off, none⟩) l) (hl : l.length < 1000000000000) :
    Calls Tryd.prog 64 #[.slice (some ⟨b, off, none⟩) l.length c] w fun e w' => ∃ A cap, e = .returned (.slice A l.length cap) ∧ Own w' 3 (.slice A l.length cap) (l.map I64) ∧ Kp (fun _ => False) w w' ∧
      ∀ g, (Value.slice A l.length cap).ownBlock = some g → w.heap.size ≤ g := by
  obtain ⟨i0, hi, hz0, hz1, hz2⟩ := info_parts info_int
  have hnil := Lib.run_eql_slice_nil (P := Tryd.prog)
  have HI := Lib.hid (And.intro hi (And.intro hz0 (And.intro hz1 hz2)))
  have hcells : ∀ j u, (l.map I64)[j]? = some u → (w.alloc (.cells #[] 3)).cell? ((⟨b, off, none⟩ : Addr).add j) = some u := fun j u hu => by
    rw [List.getElem?_map, Option.map_eq_some_iff] at hu
    obtain ⟨x, hx, rfl⟩ := hu
    obtain ⟨hj, rfl⟩ := List.getElem?_eq_some_iff.1 hx
    obtain ⟨b', off', e, _, hc⟩ := h (by omega)
    cases e
    rw [add_mk]
    have h1 := hc j hj
    rw [World.cell?_alloc_lt w _ _ (World.block_lt_of_cell? w _ h1)]
    exact h1
  have HC := Lib.hid hcells
  have HLm := Lib.hid (show (l.map I64).length = l.length by simp)
  clear hi hz0 hz1 hz2 h hcells
  go_enter Tryd.func64, Tryd.ntmps64
  go_wp2_with (at_builtin; refine wpList_appends _ rfl (.tmp 5) (.tmp 6) 22 rfl 3 i0 (.int .i64 0) 8 Tryd.underlying22 HI.out.1 HI.out.2.1 HI.out.2.2.1 HI.out.2.2.2 rfl _ [] rfl (Own.empty w _) ⟨b, off, none⟩ c (l.map I64) ?c0 HC.out ?c1 ?c2 ?c3 ?_)
  case c0 => rw [HLm.out]; rfl
  case c1 => intro u hu; obtain ⟨x, _, rfl⟩ := List.mem_map.1 hu; rfl
  case c2 => rw [HLm.out]; simp [maxLen]; omega
  case c3 => rw [HLm.out]; simp; omega
  intro A cap w1 h1 h2 h3
  have H1 := Lib.hid h1
  have H2 := Lib.hid h2
  have H3 := Lib.hid h3
  clear h1 h2 h3
  go_wp2
  go_ret
  refine ⟨A, cap, rfl, H1.out, ?_, ?_⟩
  · exact ((Kp.refl _ w).alloc _).grown H2.out (fun g e hg => by simp [Value.ownBlock] at e; omega)
  · intro g hg
    rcases H3.out g hg with e | e
    · simp [Value.ownBlock] at e; omega
    · omega

theorem ones_any (n : Nat) (hn : n < 8) (w : World) : Calls Tryd.prog 65 #[.int .u64 n] w fun e w' => e = .returned (I64 (pop8 n : Nat)) ∧ w = w' := by
  match n, hn with
  | 0, _ => go_enter Tryd.func65, Tryd.ntmps65; go_wp2; go_ret; exact ⟨by kernel_rfl, rfl⟩
  | 1, _ => go_enter Tryd.func65, Tryd.ntmps65; go_wp2; go_ret; exact ⟨by kernel_rfl, rfl⟩
  | 2, _ => go_enter Tryd.func65, Tryd.ntmps65; go_wp2; go_ret; exact ⟨by kernel_rfl, rfl⟩
  | 3, _ => go_enter Tryd.func65, Tryd.ntmps65; go_wp2; go_ret; exact ⟨by kernel_rfl, rfl⟩
  | 4, _ => go_enter Tryd.func65, Tryd.ntmps65; go_wp2; go_ret; exact ⟨by kernel_rfl, rfl⟩
  | 5, _ => go_enter Tryd.func65, Tryd.ntmps65; go_wp2; go_ret; exact ⟨by kernel_rfl, rfl⟩
  | 6, _ => go_enter Tryd.func65, Tryd.ntmps65; go_wp2; go_ret; exact ⟨by kernel_rfl, rfl⟩
  | 7, _ => go_enter Tryd.func65, Tryd.ntmps65; go_wp2; go_ret; exact ⟨by kernel_rfl, rfl⟩

/-- the library's table lies in its variable -/
def TabAt (w : World) : Prop := ∀ j, j < 64 → w.cell? ⟨1, j, none⟩ = some (.int .u8 (Lib.deBruijn64tab.getD j 0))
theorem TabAt.kp {M : Nat → Prop} {w w' : World} (h : TabAt w) (hk : Kp M w w') (hm : ¬ M 1) : TabAt w' := fun j hj =>
  (hk.cell (World.block_lt_of_cell? w _ (h j hj)) hm).trans (h j hj)
theorem tz64_key (x a : Nat) (hx : x < 18446744073709551616) (hx0 : x ≠ 0) (hlow : x &&& (18446744073709551616 - x) = a) :
    IntKind.u64.wrap (bits BinOp.and IntKind.u64 (x : Int) (IntKind.u64.wrap (-(x : Int))) * 285870213051353865) / 288230376151711744 = ((a * 285870213051353865 % 18446744073709551616 / 288230376151711744 : Nat) : Int) := by
  have e1 : IntKind.u64.wrap (-(x : Int)) = ((18446744073709551616 - x : Nat) : Int) := by rw [IntKind.wrap_u64]; omega
  rw [e1, bits_and_u64_nat x _ hx (by omega), hlow, IntKind.wrap_u64]
  omega
set_option maxHeartbeats 1000000 in
theorem tz_core (x k idx : Nat) (w : World) (hx0 : ((x : Int) == 0) = false)
    (key : IntKind.u64.wrap (bits BinOp.and IntKind.u64 (x : Int) (IntKind.u64.wrap (-(x : Int))) * 285870213051353865) / 288230376151711744 = (idx : Int))
    (hi : idx < 64) (hk : k < 64) (hcell : w.cell? ⟨1, idx, none⟩ = some (.int .u8 k)) :
    Calls Tryd.prog 62 #[.int .u64 x] w fun e w' => e = .returned (.int .i64 k) ∧ w = w' := by
  go_enter Tryd.func62, Tryd.ntmps62
  go_wp2_with (simp only [key])
  go_ret
  exact ⟨rfl, rfl⟩
theorem tz64_any (x : Nat) (hx : x < 18446744073709551616) (hx0 : x ≠ 0) (w : World) (hT : TabAt w) :
    Calls Tryd.prog 62 #[.int .u64 x] w fun e w' => e = .returned (.int .i64 (Lib.ctz 64 x)) ∧ w = w' := by
  obtain ⟨hlow, hk⟩ := Lib.lowest_bit 64 x hx0 hx
  obtain ⟨hi, htab⟩ := Lib.deBruijn64_at _ hk
  have hcell := hT _ hi
  rw [htab] at hcell
  exact tz_core x _ _ w (by simp; omega) (tz64_key x _ hx hx0 hlow) hi hk hcell
theorem tz_any (x : Nat) (hx : x < 18446744073709551616) (hx0 : x ≠ 0) (w : World) (hT : TabAt w) :
    Calls Tryd.prog 31 #[.int .u64 x] w fun e w' => e = .returned (.int .i64 (Lib.ctz 64 x)) ∧ w = w' := by
  have HT := Lib.hid hT
  clear hT
  go_enter Tryd.func31, Tryd.ntmps31
  go_wp2_with (go_at_call 62; refine (tz64_any x hx hx0 w HT.out).mono ?_; rintro e w' ⟨rfl, rfl⟩)
  go_ret
  exact ⟨rfl, rfl⟩
end Go.Proofs.YtogolfneckhnaaaDoor
