/- The reference of layer 24: equality of proofs, in the reader's words. -/
import Derived.Test.YtbpbndlgfiammaaGreatDoorEngG
import Derived.Test.YtbpbndlgfiammaaGreatDoorProg
import Derived.Test.YtbpbndlgfiammaaGreatDoorTxtC
namespace Go.Proofs.YtbpbndlgfiammaaGreatDoor.En
open Go Go.RowKit
set_option linter.unusedVariables false
set_option linter.unusedSimpArgs false
set_option linter.unnecessarySimpa false
def tyR24B : List (Nat × TD) := [(3, ⟨1, false, [.int .i64 0], [], none, 8, false, 1, 1⟩),
  (22, ⟨1, false, [.slice none 0 0], [], some 23, 24, false, 0, 0⟩),
  (23, ⟨1, false, [.slice none 0 0], [], some 3, 24, false, 0, 3⟩),
  (29, ⟨1, false, [.slice none 0 0], [], some 43, 24, false, 0, 0⟩),
  (43, ⟨2, true, [.int .i64 0, .slice none 0 0], [(0, 3), (1, 23)], none, 32, false, 0, 7⟩)]
theorem tyR24B_ok : AllTy Tryz.prog tyR24B := ⟨⟨by kernel_rfl, by kernel_rfl, by kernel_rfl⟩, ⟨by kernel_rfl, by kernel_rfl, by kernel_rfl⟩, ⟨by kernel_rfl, by kernel_rfl, by kernel_rfl⟩, ⟨by kernel_rfl, by kernel_rfl, by kernel_rfl⟩, ⟨by kernel_rfl, by kernel_rfl, by kernel_rfl⟩, trivial⟩
def cx_rSame : Cx := ⟨tyR24B, [], true⟩
theorem cx_rSame_ok : CxOk Tryz.prog cx_rSame := cx_ok tyR24B_ok trivial
def rSame_σ : CtF
  | [.im (.ls (.lines a)), .im (.ls (.lines b))], [] => some (a.length ≤ maxLen ∧ b.length ≤ maxLen ∧ (∀ x ∈ a, x.2.length ≤ maxLen) ∧ ∀ x ∈ b, x.2.length ≤ maxLen, .bool (a == b), [])
  | _, _ => none
theorem rSame_sound : Sound Tryz.prog 23 rSame_σ := by
 refine sound_mk (cx := cx_rSame) (fn := Tryz.f23) Tryz.func23 (by kernel_rfl) rfl ?_
 intro w0 G0 args os p r outs hσ hp hm0 hd0
 have hcx : CxOk Tryz.prog cx_rSame := cx_rSame_ok
 have hmx : Tryz.prog.follows .mixedOrders = true := by kernel_rfl
 unfold rSame_σ at hσ
 split at hσ
 ·
  rename_i a b
  simp only [Option.some.injEq, Prod.mk.injEq] at hσ
  obtain ⟨rfl, rfl, rfl⟩ := hσ
  obtain ⟨wW, wO, wm, wβ, wd⟩ := w0
  replace hm0 : wm = 0 := hm0
  subst hm0
  replace hd0 : wd = [] := hd0
  subst hd0
  refine ⟨by kernel_rfl, ?_⟩
  change Tri ⟨_, _, _, _, _, _⟩ [(0, .lines a), (1, .lines b)] [] _ _
  obtain ⟨hm1, hm2, hm3, hm4⟩ := hp
  unfold maxLen at hm1 hm2 hm3 hm4
  refine tri_seq ?_
  refine tri_regD hcx [] [] [0, 1] [] [] [] [] (by kernel_rfl) ?_ ?_
  ·
   exact az
  refine fin_then ?_
  refine tri_seq ?_
  refine tri_seq ?_
  refine tri_regD hcx [] [11] [0, 1] [] [] [(11, .bool ((a.length : Int) != (b.length : Int)))] [] (by kernel_rfl) ?_ ?_
  ·
   exact az
  refine fin_then ?_
  refine tri_cond (b := ((a.length : Int) != (b.length : Int))) (by kernel_rfl) (fun hb0 => ?_) (fun hb0 => ?_)
  ·
   skip
   have h0 := bne_iff_ne.1 hb0
   have h11 := h0
   refine tri_seq ?_
   refine tri_regD hcx [] [4] [] [] [] [(4, .bool false)] [] (by kernel_rfl) ?_ ?_
   ·
    exact az
   refine fin_then ?_
   refine tri_ret ?_
   refine fin_then_ret ?_
   exact fin_ret [] rfl rfl trivial hcx (avs := [.bool false]) (by kernel_rfl) (congrArg AV.bool (show false = (a == b) from (by first | exact Cn.sm_len (by omega) | exact Cn.sm_no hne | exact Cn.sm_yes (by omega) (by omega) hok | done))) [] rfl
  ·
   skip
   have h0 := bneF hb0
   have h11 := h0
   refine tri_skip ?_
   refine fin_then ?_
   refine tri_seq ?_
   refine tri_seq ?_
   refine tri_regD hcx [] [13, 14] [0, 1] [] [] [(13, .int (a.length : Int)), (14, .int 0)] [] (by kernel_rfl) ?_ ?_
   ·
    exact az
   refine fin_then ?_
   refine tri_block ?_
   refine tri_loop (X := Nat) (fun x0 => x0 ≤ a.length ∧ ∀ j, j < x0 → a.getD j (0, []) = b.getD j (0, [])) (fun x0 => [(0, .lines a), (1, .lines b), (13, .int (a.length : Int)), (14, .int (x0 : Int))]) (fun x0 => []) (fun x0 => a.length - x0) (0) ?_ ?_ ?_ ?_
   ·
    show 0 ≤ a.length ∧ ∀ j, j < 0 → a.getD j (0, []) = b.getD j (0, [])
    exact ⟨Nat.zero_le _, fun j hj => by omega⟩
   ·
    exact subE_mk (l := [.lines a, .lines b, .int (a.length : Int), .int 0]) (m := [.lines a, .lines b, .int (a.length : Int), .int (0 : Int)]) (by kernel_rfl) (by kernel_rfl) (consE rfl (consE rfl (consE rfl (consE (congrArg AV.int (show 0 = (0 : Int) from (by first | rfl | omega | (simp; done)))) rfl))))
   ·
    kernel_rfl
   ·
    intro i hI
    replace hI : i ≤ a.length ∧ ∀ j, j < i → a.getD j (0, []) = b.getD j (0, []) := hI
    change Tri _ [(0, .lines a), (1, .lines b), (13, .int (a.length : Int)), (14, .int (i : Int))] [] _ _
    obtain ⟨hk, hok⟩ := hI
    have hxa := fun (h : i < a.length) => hm3 _ (Cn.getD_memL (d := (0, [])) h)
    refine tri_seq ?_
    refine tri_regD hcx [] [15] [0, 1, 13, 14] [] [] [(15, .bool (decide ((i : Int) < (a.length : Int))))] [] (by kernel_rfl) ?_ ?_
    ·
     exact az
    refine fin_then ?_
    refine tri_seq ?_
    refine tri_cond (b := (decide ((i : Int) < (a.length : Int)))) (by kernel_rfl) (fun hb1 => ?_) (fun hb1 => ?_)
    ·
     skip
     have h1 := of_decide_eq_true hb1
     refine tri_skip ?_
     refine fin_then ?_
     refine tri_seq ?_
     refine tri_block ?_
     refine tri_seq ?_
     refine tri_regD hcx [] [5] [0, 1, 13, 14] [] [] [(5, .int (i : Int))] [] (by kernel_rfl) ?_ ?_
     ·
      exact az
     refine fin_then ?_
     refine tri_seq ?_
     refine tri_seq ?_
     refine tri_drawD [0, 0, 3, 7, 15, 0, 0, 96, 224, 480, 1023, 2047, 4095, 4095, 16383, 32767, 65535, 131071, 4095, 4095, 790527, 1839103, 3936255, 8130559, 16777215, 33554431] hcx hmx [] [42] [5, 0, 1, 13, 14] [] [((0 : Int) ≤ (i : Int) ∧ (i : Int) < (a.length : Int)), ((0 : Int) ≤ (i : Int) ∧ (i : Int) < (b.length : Int)), ((!(((a.getD i (0, [])).1) != ((b.getD i (0, [])).1))) = true → ((!(((a.getD i (0, [])).1) != ((b.getD i (0, [])).1))) = true)), ((!(((a.getD i (0, [])).1) != ((b.getD i (0, [])).1))) = true → ((!(((a.getD i (0, [])).1) != ((b.getD i (0, [])).1))) = true)), ((!(((a.getD i (0, [])).1) != ((b.getD i (0, [])).1))) = true → ((0 : Int) ≤ (i : Int) ∧ (i : Int) < (a.length : Int))), ((!(((a.getD i (0, [])).1) != ((b.getD i (0, [])).1))) = true → ((!(((a.getD i (0, [])).1) != ((b.getD i (0, [])).1))) = true)), ((!(((a.getD i (0, [])).1) != ((b.getD i (0, [])).1))) = true → ((!(((a.getD i (0, [])).1) != ((b.getD i (0, [])).1))) = true)), ((!(((a.getD i (0, [])).1) != ((b.getD i (0, [])).1))) = true → ((!(((a.getD i (0, [])).1) != ((b.getD i (0, [])).1))) = true)), ((!(((a.getD i (0, [])).1) != ((b.getD i (0, [])).1))) = true → ((!(((a.getD i (0, [])).1) != ((b.getD i (0, [])).1))) = true)), ((!(((a.getD i (0, [])).1) != ((b.getD i (0, [])).1))) = true → ((!(((a.getD i (0, [])).1) != ((b.getD i (0, [])).1))) = true)), ((!(((a.getD i (0, [])).1) != ((b.getD i (0, [])).1))) = true → ((0 : Int) ≤ (i : Int) ∧ (i : Int) < (b.length : Int))), ((!(((a.getD i (0, [])).1) != ((b.getD i (0, [])).1))) = true → ((!(((a.getD i (0, [])).1) != ((b.getD i (0, [])).1))) = true)), ((!(((a.getD i (0, [])).1) != ((b.getD i (0, [])).1))) = true → ((!(((a.getD i (0, [])).1) != ((b.getD i (0, [])).1))) = true)), ((!(((a.getD i (0, [])).1) != ((b.getD i (0, [])).1))) = true → ((!(((a.getD i (0, [])).1) != ((b.getD i (0, [])).1))) = true)), ((!(((a.getD i (0, [])).1) != ((b.getD i (0, [])).1))) = true → ((!(((a.getD i (0, [])).1) != ((b.getD i (0, [])).1))) = true)), ((!(((a.getD i (0, [])).1) != ((b.getD i (0, [])).1))) = true → ((!(((a.getD i (0, [])).1) != ((b.getD i (0, [])).1))) = true)), ((((a.getD i (0, [])).1) != ((b.getD i (0, [])).1)) = false → (!(((a.getD i (0, [])).1) != ((b.getD i (0, [])).1))) = true)] [(42, .bool ((((a.getD i (0, [])).1) != ((b.getD i (0, [])).1)) || ((((a.getD i (0, [])).2).length : Int) != (((b.getD i (0, [])).2).length : Int))))] [] (by kernel_rfl) ?_ ?_
     ·
      refine (ap ?_ (ap ?_ (ap ?_ (ap ?_ (ap ?_ (ap ?_ (ap ?_ (ap ?_ (ap ?_ (ap ?_ (ap ?_ (ap ?_ (ap ?_ (ap ?_ (ap ?_ (ap ?_ (ap (by exact vcNot) az)))))))))))))))))
      all_goals
       first | omega | exact id | exact vcNot | exact vcG | exact vcH | (intro _; omega) | exact (fun _ h => h) | (intro h; simp at h; omega) | (simp only [List.length_cons, List.length_nil, List.length_append, List.length_map, List.length_set, List.length_replicate]; omega) | (intro h; simp [h]; done) | (constructor <;> omega) | (intro _; constructor <;> omega) | done
     refine fin_then ?_
     refine tri_cond (b := ((((a.getD i (0, [])).1) != ((b.getD i (0, [])).1)) || ((((a.getD i (0, [])).2).length : Int) != (((b.getD i (0, [])).2).length : Int)))) (by kernel_rfl) (fun hb2 => ?_) (fun hb2 => ?_)
     ·
      skip
      have h2 := hb2
      have hne := Cn.sm_ne h2
      refine tri_seq ?_
      refine tri_regD hcx [] [4] [] [] [] [(4, .bool false)] [] (by kernel_rfl) ?_ ?_
      ·
       exact az
      refine fin_then ?_
      refine tri_ret ?_
      refine fin_then_ret ?_
      refine fin_block_ret ?_
      refine fin_then_ret ?_
      refine fin_then_ret ?_
      refine fin_block_ret ?_
      refine fin_then_ret ?_
      exact fin_ret [] rfl rfl trivial hcx (avs := [.bool false]) (by kernel_rfl) (congrArg AV.bool (show false = (a == b) from (by first | exact Cn.sm_len (by omega) | exact Cn.sm_no hne | exact Cn.sm_yes (by omega) (by omega) hok | done))) [] rfl
     ·
      skip
      have h2 := hb2
      obtain ⟨he1, he2⟩ := Cn.sm_eq h2
      refine tri_skip ?_
      refine fin_then ?_
      refine tri_seq ?_
      refine tri_regD hcx [] [48, 49] [5, 0, 1, 13, 14] [] [((0 : Int) ≤ (i : Int) ∧ (i : Int) < (a.length : Int))] [(48, .int (((a.getD i (0, [])).2).length : Int)), (49, .int 0)] [] (by kernel_rfl) ?_ ?_
      ·
       refine (ap ?_ az)
       first | omega | exact id | exact vcNot | exact vcG | exact vcH | (intro _; omega) | exact (fun _ h => h) | (intro h; simp at h; omega) | (simp only [List.length_cons, List.length_nil, List.length_append, List.length_map, List.length_set, List.length_replicate]; omega) | (intro h; simp [h]; done) | (constructor <;> omega) | (intro _; constructor <;> omega) | done
      refine fin_then ?_
      refine tri_block ?_
      refine tri_loop (X := Nat) (fun x0 => x0 ≤ (a.getD i (0, [])).2.length ∧ ∀ j, j < x0 → (a.getD i (0, [])).2.getD j 0 = (b.getD i (0, [])).2.getD j 0) (fun x0 => [(0, .lines a), (1, .lines b), (5, .int (i : Int)), (13, .int (a.length : Int)), (14, .int (i : Int)), (48, .int (((a.getD i (0, [])).2).length : Int)), (49, .int (x0 : Int))]) (fun x0 => []) (fun x0 => (a.getD i (0, [])).2.length - x0) (0) ?_ ?_ ?_ ?_
      ·
       show 0 ≤ (a.getD i (0, [])).2.length ∧ ∀ j, j < 0 → (a.getD i (0, [])).2.getD j 0 = (b.getD i (0, [])).2.getD j 0
       exact ⟨Nat.zero_le _, fun j hj => by omega⟩
      ·
       exact subE_mk (l := [.lines a, .lines b, .int (i : Int), .int (a.length : Int), .int (i : Int), .int (((a.getD i (0, [])).2).length : Int), .int 0]) (m := [.lines a, .lines b, .int (i : Int), .int (a.length : Int), .int (i : Int), .int (((a.getD i (0, [])).2).length : Int), .int (0 : Int)]) (by kernel_rfl) (by kernel_rfl) (consE rfl (consE rfl (consE rfl (consE rfl (consE rfl (consE rfl (consE (congrArg AV.int (show 0 = (0 : Int) from (by first | rfl | omega | (simp; done)))) rfl)))))))
      ·
       kernel_rfl
      ·
       intro k hI
       replace hI : k ≤ (a.getD i (0, [])).2.length ∧ ∀ j, j < k → (a.getD i (0, [])).2.getD j 0 = (b.getD i (0, [])).2.getD j 0 := hI
       change Tri _ [(0, .lines a), (1, .lines b), (5, .int (i : Int)), (13, .int (a.length : Int)), (14, .int (i : Int)), (48, .int (((a.getD i (0, [])).2).length : Int)), (49, .int (k : Int))] [] _ _
       obtain ⟨hk2, hok2⟩ := hI
       have hxa2 := hxa (by omega)
       refine tri_seq ?_
       refine tri_regD hcx [] [50] [0, 1, 5, 13, 14, 48, 49] [] [] [(50, .bool (decide ((k : Int) < (((a.getD i (0, [])).2).length : Int))))] [] (by kernel_rfl) ?_ ?_
       ·
        exact az
       refine fin_then ?_
       refine tri_seq ?_
       refine tri_cond (b := (decide ((k : Int) < (((a.getD i (0, [])).2).length : Int)))) (by kernel_rfl) (fun hb3 => ?_) (fun hb3 => ?_)
       ·
        skip
        have h3 := of_decide_eq_true hb3
        refine tri_skip ?_
        refine fin_then ?_
        refine tri_seq ?_
        refine tri_block ?_
        refine tri_seq ?_
        refine tri_regD hcx [] [6] [0, 1, 5, 13, 14, 48, 49] [] [] [(6, .int (k : Int))] [] (by kernel_rfl) ?_ ?_
        ·
         exact az
        refine fin_then ?_
        refine tri_seq ?_
        refine tri_drawD [0, 0, 3, 7, 15, 0, 63, 127, 0, 0, 768, 1792, 3840, 0, 16128, 32512, 65535] hcx hmx [] [68] [0, 1, 5, 13, 14, 48, 49] [] [((0 : Int) ≤ (i : Int) ∧ (i : Int) < (a.length : Int)), ((0 : Int) ≤ (k : Int) ∧ (k : Int) < (((a.getD i (0, [])).2).length : Int)), ((0 : Int) ≤ (i : Int) ∧ (i : Int) < (b.length : Int)), ((0 : Int) ≤ (k : Int) ∧ (k : Int) < (((b.getD i (0, [])).2).length : Int))] [(68, .bool ((((a.getD i (0, [])).2).getD k 0) != (((b.getD i (0, [])).2).getD k 0)))] [] (by kernel_rfl) ?_ ?_
        ·
         refine (ap ?_ (ap ?_ (ap ?_ (ap ?_ az))))
         all_goals
          first | omega | exact id | exact vcNot | exact vcG | exact vcH | (intro _; omega) | exact (fun _ h => h) | (intro h; simp at h; omega) | (simp only [List.length_cons, List.length_nil, List.length_append, List.length_map, List.length_set, List.length_replicate]; omega) | (intro h; simp [h]; done) | (constructor <;> omega) | (intro _; constructor <;> omega) | done
        refine fin_then ?_
        refine tri_cond (b := ((((a.getD i (0, [])).2).getD k 0) != (((b.getD i (0, [])).2).getD k 0))) (by kernel_rfl) (fun hb4 => ?_) (fun hb4 => ?_)
        ·
         skip
         have h4 := bne_iff_ne.1 hb4
         have hne := Cn.sm_in h4
         refine tri_seq ?_
         refine tri_regD hcx [] [4] [] [] [] [(4, .bool false)] [] (by kernel_rfl) ?_ ?_
         ·
          exact az
         refine fin_then ?_
         refine tri_ret ?_
         refine fin_block_ret ?_
         refine fin_then_ret ?_
         refine fin_then_ret ?_
         refine fin_block_ret ?_
         refine fin_block_ret ?_
         refine fin_then_ret ?_
         refine fin_then_ret ?_
         refine fin_block_ret ?_
         refine fin_then_ret ?_
         exact fin_ret [] rfl rfl trivial hcx (avs := [.bool false]) (by kernel_rfl) (congrArg AV.bool (show false = (a == b) from (by first | exact Cn.sm_len (by omega) | exact Cn.sm_no hne | exact Cn.sm_yes (by omega) (by omega) hok | done))) [] rfl
        ·
         skip
         have h4 := bneF hb4
         have hq := h4
         refine tri_skip ?_
         refine fin_block ?_
         refine fin_then ?_
         refine tri_regD hcx [] [49] [0, 1, 5, 13, 14, 48] [] [Fit ((k : Int) + 1)] [(49, .int ((k : Int) + 1))] [] (by kernel_rfl) ?_ ?_
         ·
          refine (ap ?_ az)
          first | omega | exact id | exact vcNot | exact vcG | exact vcH | (intro _; omega) | exact (fun _ h => h) | (intro h; simp at h; omega) | (simp only [List.length_cons, List.length_nil, List.length_append, List.length_map, List.length_set, List.length_replicate]; omega) | (intro h; simp [h]; done) | (constructor <;> omega) | (intro _; constructor <;> omega) | done
         refine fin_round (k + 1) ?_ ?_ ?_ ?_
         ·
          show (k + 1) ≤ (a.getD i (0, [])).2.length ∧ ∀ j, j < (k + 1) → (a.getD i (0, [])).2.getD j 0 = (b.getD i (0, [])).2.getD j 0
          exact ⟨by omega, fun j hj => by rcases (by omega : j < k ∨ j = k) with h | rfl; exact hok2 j h; exact hq⟩
         ·
          show (a.getD i (0, [])).2.length - (k + 1) < (a.getD i (0, [])).2.length - k
          omega
         ·
          exact subE_mk (l := [.lines a, .lines b, .int (i : Int), .int (a.length : Int), .int (i : Int), .int (((a.getD i (0, [])).2).length : Int), .int ((k : Int) + 1)]) (m := [.lines a, .lines b, .int (i : Int), .int (a.length : Int), .int (i : Int), .int (((a.getD i (0, [])).2).length : Int), .int ((k + 1) : Int)]) (by kernel_rfl) (by kernel_rfl) (consE rfl (consE rfl (consE rfl (consE rfl (consE rfl (consE rfl (consE (congrArg AV.int (show ((k : Int) + 1) = ((k + 1) : Int) from (by first | rfl | omega | (simp; done)))) rfl)))))))
         ·
          kernel_rfl
       ·
        skip
        have h3 := of_decide_eq_false hb3
        refine tri_exit ?_
        refine fin_then_exit ?_
        refine fin_then_exit ?_
        refine fin_block_same ?_
        refine fin_block ?_
        refine fin_then ?_
        refine tri_regD hcx [] [14] [0, 1, 13] [] [Fit ((i : Int) + 1)] [(14, .int ((i : Int) + 1))] [] (by kernel_rfl) ?_ ?_
        ·
         refine (ap ?_ az)
         first | omega | exact id | exact vcNot | exact vcG | exact vcH | (intro _; omega) | exact (fun _ h => h) | (intro h; simp at h; omega) | (simp only [List.length_cons, List.length_nil, List.length_append, List.length_map, List.length_set, List.length_replicate]; omega) | (intro h; simp [h]; done) | (constructor <;> omega) | (intro _; constructor <;> omega) | done
        refine fin_round (i + 1) ?_ ?_ ?_ ?_
        ·
         show (i + 1) ≤ a.length ∧ ∀ j, j < (i + 1) → a.getD j (0, []) = b.getD j (0, [])
         exact ⟨by omega, fun j hj => by rcases (by omega : j < i ∨ j = i) with h | rfl; exact hok j h; exact Cn.sm_pair he1 he2 (by omega) hok2⟩
        ·
         show a.length - (i + 1) < a.length - i
         omega
        ·
         exact subE_mk (l := [.lines a, .lines b, .int (a.length : Int), .int ((i : Int) + 1)]) (m := [.lines a, .lines b, .int (a.length : Int), .int ((i + 1) : Int)]) (by kernel_rfl) (by kernel_rfl) (consE rfl (consE rfl (consE rfl (consE (congrArg AV.int (show ((i : Int) + 1) = ((i + 1) : Int) from (by first | rfl | omega | (simp; done)))) rfl))))
        ·
         kernel_rfl
    ·
     skip
     have h1 := of_decide_eq_false hb1
     refine tri_exit ?_
     refine fin_then_exit ?_
     refine fin_then_exit ?_
     refine fin_block_same ?_
     refine fin_then ?_
     refine tri_seq ?_
     refine tri_regD hcx [] [4] [] [] [] [(4, .bool true)] [] (by kernel_rfl) ?_ ?_
     ·
      exact az
     refine fin_then ?_
     refine tri_ret ?_
     exact fin_ret [] rfl rfl trivial hcx (avs := [.bool true]) (by kernel_rfl) (congrArg AV.bool (show true = (a == b) from (by first | exact Cn.sm_len (by omega) | exact Cn.sm_no hne | exact Cn.sm_yes (by omega) (by omega) hok | done))) [] rfl
 ·
  cases hσ
end Go.Proofs.YtbpbndlgfiammaaGreatDoor.En
