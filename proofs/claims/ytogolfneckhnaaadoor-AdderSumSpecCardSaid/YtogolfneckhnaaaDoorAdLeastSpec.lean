/- AdderLeastSpec's walk: at every slice of integers and every bound the law's Go text returns true, and writes nothing that was there. -/
import Derived.Test.YtogolfneckhnaaaDoorAdRLeast
import Derived.Test.YtogolfneckhnaaaDoorLive17b
namespace Go.Proofs.YtogolfneckhnaaaDoor
open Go.RowKit Go.Shelf

theorem least_err (A : Option Addr) (cA : Nat) (l : List Int) (k c : Int) (w : World) (ha : Rd I64 (· < w.heap.size) w A l) (hT : TabAt w) (hll : l.length ≤ 1000000000) (hr : leastP l k = .err c) :
    Calls Tryd.prog 17 #[.slice A l.length cA, I64 k] w fun e w' => e = .returned (.tuple #[.slice none 0 0, I64 c]) ∧ Below w.heap.size w w' := by
  have h := least_any A cA l k w ha hT hll
  rw [hr] at h
  exact h
theorem rleast_err (A : Option Addr) (cA : Nat) (l : List Int) (k c : Int) (w : World) (ha : Rd I64 (· < w.heap.size) w A l) (hll : l.length ≤ 1000000000) (hr : leastP l k = .err c) :
    Calls Tryd.prog 18 #[.slice A l.length cA, I64 k] w fun e w' => e = .returned (.tuple #[.slice none 0 0, I64 c]) ∧ Below w.heap.size w w' := by
  have h := rleast_any A cA l k w ha hll
  rw [hr] at h
  exact h
theorem least_ok (A : Option Addr) (cA : Nat) (l : List Int) (k : Int) (cs : List (List Int)) (w : World) (ha : Rd I64 (· < w.heap.size) w A l) (hT : TabAt w) (hll : l.length ≤ 1000000000) (hr : leastP l k = .ok cs) :
    Calls Tryd.prog 17 #[.slice A l.length cA, I64 k] w fun e w' => ∃ C cC, e = .returned (.tuple #[.slice C cs.length cC, I64 0]) ∧ RdL (· < w'.heap.size) w' C cs ∧ Below w.heap.size w w' := by
  have h := least_any A cA l k w ha hT hll
  rw [hr] at h
  exact h.mono fun e w' ⟨C, cC, e1, _, r1, hb⟩ => ⟨C, cC, e1, r1, hb⟩
theorem rleast_ok (A : Option Addr) (cA : Nat) (l : List Int) (k : Int) (cs : List (List Int)) (w : World) (ha : Rd I64 (· < w.heap.size) w A l) (hll : l.length ≤ 1000000000) (hr : leastP l k = .ok cs) :
    Calls Tryd.prog 18 #[.slice A l.length cA, I64 k] w fun e w' => ∃ C cC, e = .returned (.tuple #[.slice C cs.length cC, I64 0]) ∧ RdL (· < w'.heap.size) w' C cs ∧ Below w.heap.size w w' := by
  have h := rleast_any A cA l k w ha hll
  rw [hr] at h
  exact h.mono fun e w' ⟨C, cC, e1, _, r1, hb⟩ => ⟨C, cC, e1, r1, hb⟩
theorem lists_same {D : Nat → Prop} (A B : Option Addr) (c d n : Nat) (xs : List (List Int)) (w : World) (ha : RdL D w A xs) (hb : RdL D w B xs) (hn : xs.length = n) (hx : xs.length ≤ maxLen) (hxs : ∀ x ∈ xs, x.length ≤ maxLen) :
    Calls Tryd.prog 16 #[.slice A n c, .slice B n d] w fun e w' => e = .returned (.bool true) ∧ ∃ q, w' = w.drewN q := by
  subst hn
  exact (lists_any A B c d xs xs w ha hb hx hx hxs hxs).mono fun e w' ⟨e1, hb⟩ => ⟨by rw [e1]; simp, hb⟩
theorem leastP_ok {l : List Int} {k : Int} {cs : List (List Int)} (h : leastP l k = .ok cs) (hl : l.length ≤ 100) : cs.length ≤ maxLen ∧ ∀ x ∈ cs, x.length ≤ maxLen := by
  unfold leastP at h
  split at h
  · cases h
  · split at h
    · cases h
    · injection h with h
      subst h
      refine ⟨?_, fun x hx => ?_⟩
      · have := leastTo_len l k.toNat 64
        unfold maxLen; omega
      · unfold leastTo at hx
        obtain ⟨t, _, rfl⟩ := List.mem_map.1 hx
        have := clTo_len l k.toNat t l.length
        unfold maxLen; omega

set_option maxRecDepth 100000 in
set_option maxHeartbeats 1600000 in
theorem leastSpec_any (A : Option Addr) (cA : Nat) (l : List Int) (k : Int) (w : World) (ha : Rd I64 (· < w.heap.size) w A l) (hT : TabAt w) :
    Calls Tryd.prog 4 #[.slice A l.length cA, I64 k] w fun e w' => e = .returned (.bool true) ∧ Below w.heap.size w w' := by
  have HA := Lib.hid ha
  have HT := Lib.hid hT
  clear ha hT
  by_cases hl : 100 < l.length
  · have d1 : decide ((100 : Int) < (l.length : Int)) = true := by simp; omega
    go_enter Tryd.func4, Tryd.ntmps4
    go_wp2_with fail
    refine (live_any w HT.out).mono ?_
    rintro e w1 ⟨rfl, b1⟩
    have B1 := Lib.hid b1
    clear b1
    go_wp2_with fail
    go_ret
    exact ⟨rfl, B1.out⟩
  · have d1 : decide ((100 : Int) < (l.length : Int)) = false := by simp; omega
    cases hr : leastP l k with
    | err c =>
      have HR := Lib.hid hr
      clear hr
      go_enter Tryd.func4, Tryd.ntmps4
      go_wp2_with fail
      refine (live_any w HT.out).mono ?_
      rintro e w1 ⟨rfl, b1⟩
      have B1 := Lib.hid b1
      clear b1
      go_wp2_with fail
      refine (least_err A cA l k c w1 (HA.out.up B1.out) (HT.out.below B1.out) (by omega) HR.out).mono ?_
      rintro e w2 ⟨rfl, b2⟩
      have B2 := Lib.hid (below_up B1.out b2)
      clear b2 B1
      go_wp2_with fail
      refine (rleast_err A cA l k c w2 (HA.out.up B2.out) (by omega) HR.out).mono ?_
      rintro e w3 ⟨rfl, b3⟩
      have B3 := Lib.hid (below_up B2.out b3)
      clear b3 B2
      go_wp2_with fail
      refine (lists_same (D := fun _ => True) none none 0 0 0 [] w3 (RdL.nil _) (RdL.nil _) rfl (by unfold maxLen; decide) (by simp)).mono ?_
      rintro e w4 ⟨rfl, q, hq⟩
      have B4 := Lib.hid (show Below w.heap.size w w4 by rw [hq]; exact below_n B3.out _)
      clear hq B3
      go_wp2_with fail
      go_ret
      exact ⟨rfl, B4.out⟩
    | ok cs =>
      have HR := Lib.hid hr
      have HL := Lib.hid (leastP_ok hr (by omega))
      clear hr
      go_enter Tryd.func4, Tryd.ntmps4
      go_wp2_with fail
      refine (live_any w HT.out).mono ?_
      rintro e w1 ⟨rfl, b1⟩
      have B1 := Lib.hid b1
      clear b1
      go_wp2_with fail
      refine (least_ok A cA l k cs w1 (HA.out.up B1.out) (HT.out.below B1.out) (by omega) HR.out).mono ?_
      rintro e w2 ⟨C, cC, rfl, r2, b2⟩
      have B2 := Lib.hid (below_up B1.out b2)
      have R2 := Lib.hid r2
      clear b2 B1 r2
      go_wp2_with fail
      refine (rleast_ok A cA l k cs w2 (HA.out.up B2.out) (by omega) HR.out).mono ?_
      rintro e w3 ⟨C', cC', rfl, r3, b3⟩
      have B3 := Lib.hid (below_up B2.out b3)
      have R3 := Lib.hid (And.intro (R2.out.up b3) r3)
      clear b3 B2 R2 r3
      go_wp2_with fail
      refine (lists_same (D := (· < w3.heap.size)) C C' cC cC' cs.length cs w3 R3.out.1 R3.out.2 rfl HL.out.1 HL.out.2).mono ?_
      rintro e w4 ⟨rfl, q, hq⟩
      have B4 := Lib.hid (show Below w.heap.size w w4 by rw [hq]; exact below_n B3.out _)
      clear hq B3
      go_wp2_with fail
      go_ret
      exact ⟨rfl, B4.out⟩
end Go.Proofs.YtogolfneckhnaaaDoor
