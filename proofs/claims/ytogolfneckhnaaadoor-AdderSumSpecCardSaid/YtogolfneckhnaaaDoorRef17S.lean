/- The reference of layer 17, in the reader's words: each function's contract holds. -/
import Derived.Test.YtogolfneckhnaaaDoorEngB
import Derived.Test.YtogolfneckhnaaaDoorRef17Q
namespace Go.Proofs.YtogolfneckhnaaaDoor.En
open Go Go.RowKit
set_option linter.unusedVariables false
set_option linter.unusedSimpArgs false
set_option linter.unnecessarySimpa false
def ty17 : List (Nat × TD) := [(3, ⟨1, false, [.int .i64 0], [], none, 8, false, 1, 1⟩),
  (4, ⟨1, false, [.bool false], [], none, 1, true, 0, 2⟩),
  (22, ⟨1, false, [.slice none 0 0], [], some 3, 24, false, 0, 3⟩),
  (24, ⟨1, false, [.slice none 0 0], [], some 22, 24, false, 0, 0⟩),
  (59, ⟨1, false, [.int .u64 0], [], none, 8, false, 3, 0⟩),
  (63, ⟨1, false, [.pointer none], [], none, 8, false, 0, 0⟩),
  (65, ⟨3, true, [.slice none 0 0, .slice none 0 0, .int .i64 0], [(0, 24), (1, 24), (2, 3)], none, 56, false, 0, 0⟩)]
theorem ty17_ok : AllTy Tryd.prog ty17 := ⟨⟨by kernel_rfl, by kernel_rfl⟩, ⟨by kernel_rfl, by kernel_rfl⟩, ⟨by kernel_rfl, by kernel_rfl⟩, ⟨by kernel_rfl, by kernel_rfl⟩, ⟨by kernel_rfl, by kernel_rfl⟩, ⟨by kernel_rfl, by kernel_rfl⟩, ⟨by kernel_rfl, by kernel_rfl⟩, trivial⟩
def cx_rput17 : Cx := ⟨ty17, []⟩
theorem cx_rput17_ok : CxOk Tryd.prog cx_rput17 := cx_ok ty17_ok trivial
def rput17_σ : CtF
  | [.loc 0 0, .im (.val (.int .i64 k)), .im (.val (.int .i64 x))], [.box [.row 1, .row 2, .im (.val (.int .i64 nx))], .row 22 (.intss rows), .row 22 (.intss cs)] => some (0 ≤ k ∧ k ≤ 1000000 ∧ rows.length ≤ 1000000 ∧ ∀ r ∈ rows, r.length ≤ 1000000, .tup [], [some (.box [.row 3, .row 2, .int nx]), none, some (.row 22 (.intss cs)), some (.row 22 (.intss (putR rows k.toNat x)))])
  | _, _ => none
theorem rput17_sound : Sound Tryd.prog 33 rput17_σ := by
  refine sound_mk (cx := cx_rput17) (fn := Tryd.f33) Tryd.func33 (by kernel_rfl) rfl ?_
  intro w0 G0 args os p r outs hσ hp hm0
  have hcx : CxOk Tryd.prog cx_rput17 := cx_rput17_ok
  have hmx : Tryd.prog.follows .mixedOrders = true := by kernel_rfl
  unfold rput17_σ at hσ
  split at hσ
  · rename_i k x nx rows cs
    simp only [Option.some.injEq, Prod.mk.injEq] at hσ
    obtain ⟨rfl, rfl, rfl⟩ := hσ
    obtain ⟨wW, wO, wm, wβ⟩ := w0
    replace hm0 : wm = 3 := hm0
    subst hm0
    refine ⟨by kernel_rfl, ?_⟩
    change Tri ⟨_, _, _, _, _⟩ [(0, .loc 0 0), (1, .int k), (2, .int x)] [(0, .box [.row 1, .row 2, .int nx]), (1, .row 22 (.intss rows)), (2, .row 22 (.intss cs))] _ _
    obtain ⟨hk0, hk1, hrl, hrs⟩ := hp
    refine tri_seq ?_
    refine tri_block ?_
    refine tri_ren (ρ := [(0, .to 0), (2, .to 2), (1, .to 10)]) (keys := [0, 1, 2]) (E' := [(0, .loc 0 0), (1, .int k), (2, .int x)]) (H' := [(0, .box [.row 10, .row 2, .int nx]), (2, .row 22 (.intss cs)), (10, .row 22 (.intss rows))]) (by kernel_rfl) ?_
    refine tri_loop (X := Nat) (fun x0 => x0 ≤ k.toNat + 1 - rows.length) (fun x0 => [(0, .loc 0 0), (1, .int k), (2, .int x)]) (fun x0 => [(0, .box [.row 10, .row 2, .int nx]), (2, .row 22 (.intss cs)), (10, .row 22 (.intss (rows ++ List.replicate x0 [])))]) (fun x0 => k.toNat + 1 - rows.length - x0) (0) ?_ ?_ ?_ ?_
    · show 0 ≤ k.toNat + 1 - rows.length
      omega
    · exact subE_mk (l := [.loc 0 0, .int k, .int x]) (m := [.loc 0 0, .int k, .int x]) (by kernel_rfl) (by kernel_rfl) rfl
    · exact Eq.trans (show _ = [(0, .box [.row 10, .row 2, .int nx]), (2, .row 22 (.intss cs)), (10, .row 22 (.intss rows))] from by kernel_rfl) (consH rfl (consH rfl (consH (congrArg (fun x => ((10 : Nat), x)) (congrArg (fun x => AObj.row 22 (.intss x)) (show rows = (rows ++ List.replicate 0 []) from (by simp)))) rfl)))
    · intro t hI
      replace hI : t ≤ k.toNat + 1 - rows.length := hI
      change Tri _ [(0, .loc 0 0), (1, .int k), (2, .int x)] [(0, .box [.row 10, .row 2, .int nx]), (2, .row 22 (.intss cs)), (10, .row 22 (.intss (rows ++ List.replicate t [])))] _ _
      have hr := padget_len hrs t k.toNat
      refine tri_seq ?_
      refine tri_seq ?_
      refine tri_regD hcx [] [12] [0, 1, 2] [0, 2, 10] [] [(12, .bool (decide (((rows ++ List.replicate t []).length : Int) ≤ k)))] [] (by kernel_rfl) ?_ ?_
      · exact az
      refine fin_then ?_
      refine tri_cond (b := (decide (((rows ++ List.replicate t []).length : Int) ≤ k))) (by kernel_rfl) (fun hb0 => ?_) (fun hb0 => ?_)
      · skip
        have h0 := of_decide_eq_true hb0
        simp only [List.length_append, List.length_replicate] at h0
        refine tri_skip ?_
        refine fin_then ?_
        refine tri_block ?_
        refine tri_regD hcx [(0, .to 0), (1006, .to 10)] [] [0, 1, 2] [2] [(((rows ++ List.replicate t []).length + ([([] : List Int)] : List (List Int)).length) * 24 ≤ 140737488355328)] [] [(0, .box [.row 10, .row 2, .int nx]), (10, .row 22 (.intss ((rows ++ List.replicate t []) ++ [[]])))] (by kernel_rfl) ?_ ?_
        · refine (ap ?_ az)
          first | omega | (simp only [List.length_cons, List.length_nil, List.length_append, List.length_map, List.length_set, List.length_replicate]; omega)
        refine fin_block ?_
        refine fin_ren (ρ := [(0, .to 0), (2, .to 2), (10, .to 10)]) (keys := [0, 1, 2]) (E' := [(0, .loc 0 0), (1, .int k), (2, .int x)]) (H' := [(0, .box [.row 10, .row 2, .int nx]), (2, .row 22 (.intss cs)), (10, .row 22 (.intss ((rows ++ List.replicate t []) ++ [[]])))]) (by kernel_rfl) ?_
        refine fin_round (t + 1) ?_ ?_ ?_ ?_
        · show (t + 1) ≤ k.toNat + 1 - rows.length
          omega
        · show k.toNat + 1 - rows.length - (t + 1) < k.toNat + 1 - rows.length - t
          omega
        · exact subE_mk (l := [.loc 0 0, .int k, .int x]) (m := [.loc 0 0, .int k, .int x]) (by kernel_rfl) (by kernel_rfl) rfl
        · exact Eq.trans (show _ = [(0, .box [.row 10, .row 2, .int nx]), (2, .row 22 (.intss cs)), (10, .row 22 (.intss ((rows ++ List.replicate t []) ++ [[]])))] from by kernel_rfl) (consH rfl (consH rfl (consH (congrArg (fun x => ((10 : Nat), x)) (congrArg (fun x => AObj.row 22 (.intss x)) (show ((rows ++ List.replicate t []) ++ [[]]) = (rows ++ List.replicate (t + 1) []) from (by rw [List.append_assoc, ← List.replicate_succ'])))) rfl)))
      · skip
        have h0 := of_decide_eq_false hb0
        simp only [List.length_append, List.length_replicate] at h0
        refine tri_exit ?_
        refine fin_then_exit ?_
        refine fin_then_exit ?_
        refine fin_block_same ?_
        refine fin_then ?_
        refine tri_drawD [0, 1, 3, 7, 0, 0, 0, 64, 192, 448, 0, 1984, 4032, 8160, 0, 16384, 65504, 131071, 262143] hcx hmx [(10, .to 10)] [] [] [0, 2] [((0 : Int) ≤ k ∧ k < ((rows ++ List.replicate t []).length : Int)), (k.toNat < (rows ++ List.replicate t []).length), ((([] : List Int).length + ((rows ++ List.replicate t []).getD k.toNat []).length) * 8 ≤ 140737488355328), ((([] ++ ((rows ++ List.replicate t []).getD k.toNat [])).length + [x].length) * 8 ≤ 140737488355328), ((0 : Int) ≤ k ∧ k < ((rows ++ List.replicate t []).length : Int)), (k.toNat < (rows ++ List.replicate t []).length)] [] [(10, .row 22 (.intss ((rows ++ List.replicate t []).set k.toNat (([] ++ ((rows ++ List.replicate t []).getD k.toNat [])) ++ [x]))))] (by kernel_rfl) ?_ ?_
        · refine (ap ?_ (ap ?_ (ap ?_ (ap ?_ (ap ?_ (ap ?_ az))))))
          all_goals
            first | omega | (simp only [List.length_cons, List.length_nil, List.length_append, List.length_map, List.length_set, List.length_replicate]; omega)
        refine fin_ren (ρ := [(0, .to 0), (2, .to 2), (10, .to 3)]) (keys := []) (E' := []) (H' := [(0, .box [.row 3, .row 2, .int nx]), (2, .row 22 (.intss cs)), (3, .row 22 (.intss ((rows ++ List.replicate t []).set k.toNat (([] ++ ((rows ++ List.replicate t []).getD k.toNat [])) ++ [x]))))]) (by kernel_rfl) ?_
        exact fin_end hcx (avs := []) (by kernel_rfl) rfl [true, false, true, true] (Eq.trans (show outsOf [(0, .box [.row 3, .row 2, .int nx]), (2, .row 22 (.intss cs)), (3, .row 22 (.intss ((rows ++ List.replicate t []).set k.toNat (([] ++ ((rows ++ List.replicate t []).getD k.toNat [])) ++ [x]))))] 0 [true, false, true, true] = [some (.box [.row 3, .row 2, .int nx]), none, some (.row 22 (.intss cs)), some (.row 22 (.intss ((rows ++ List.replicate t []).set k.toNat (([] ++ ((rows ++ List.replicate t []).getD k.toNat [])) ++ [x]))))] from by kernel_rfl) (consO rfl (consO rfl (consO rfl (consO (congrArg some (congrArg (fun x => AObj.row 22 (.intss x)) (show ((rows ++ List.replicate t []).set k.toNat (([] ++ ((rows ++ List.replicate t []).getD k.toNat [])) ++ [x])) = (putR rows k.toNat x) from (by exact putR_run (by omega))))) rfl)))))
  · cases hσ
def cx_rturned17 : Cx := ⟨ty17, [(33, rput17_σ)]⟩
theorem cx_rturned17_ok : CxOk Tryd.prog cx_rturned17 := cx_ok ty17_ok ⟨rput17_sound, trivial⟩
def rturned17_σ : CtF
  | [.im (.val (.int .i64 x)), .im (.val (.bool y))], [] => some (Fit (0 - x), .int (bif y then 0 - x else x), [])
  | _, _ => none
theorem rturned17_sound : Sound Tryd.prog 70 rturned17_σ := by
  refine sound_mk (cx := cx_rturned17) (fn := Tryd.f70) Tryd.func70 (by kernel_rfl) rfl ?_
  intro w0 G0 args os p r outs hσ hp hm0
  have hcx : CxOk Tryd.prog cx_rturned17 := cx_rturned17_ok
  unfold rturned17_σ at hσ
  split at hσ
  · rename_i x y
    simp only [Option.some.injEq, Prod.mk.injEq] at hσ
    obtain ⟨rfl, rfl, rfl⟩ := hσ
    obtain ⟨wW, wO, wm, wβ⟩ := w0
    replace hm0 : wm = 0 := hm0
    subst hm0
    refine ⟨by kernel_rfl, ?_⟩
    change Tri ⟨_, _, _, _, _⟩ [(0, .int x), (1, .bool y)] [] _ _
    refine tri_seq ?_
    refine tri_regD hcx [] [] [0, 1] [] [] [] [] (by kernel_rfl) ?_ ?_
    · exact az
    refine fin_then ?_
    refine tri_seq ?_
    refine tri_seq ?_
    refine tri_regD hcx [] [5] [0] [] [] [(5, .bool y)] [] (by kernel_rfl) ?_ ?_
    · exact az
    refine fin_then ?_
    refine tri_cond (b := y) (by kernel_rfl) (fun hb0 => ?_) (fun hb0 => ?_)
    · skip
      have h0 := hb0
      try simp only [Bool.or_eq_true, Bool.or_eq_false_iff, Bool.and_eq_true, Bool.and_eq_false_iff, Bool.not_eq_true', Bool.not_eq_false', decide_eq_true_eq, decide_eq_false_iff_not, bne_iff_ne, bne_eq_false_iff_eq, beq_iff_eq, beq_eq_false_iff_ne] at h0
      refine tri_seq ?_
      refine tri_regD hcx [] [4] [] [] [Fit (0 - x)] [(4, .int (0 - x))] [] (by kernel_rfl) ?_ ?_
      · refine (ap ?_ az)
        exact hp
      refine fin_then ?_
      refine tri_ret ?_
      refine fin_then_ret ?_
      exact fin_ret hcx (avs := [.int (0 - x)]) (by kernel_rfl) (congrArg AV.int (show (0 - x) = (bif y then 0 - x else x) from (by rw [hb0]; rfl))) [] rfl
    · skip
      have h0 := hb0
      try simp only [Bool.or_eq_true, Bool.or_eq_false_iff, Bool.and_eq_true, Bool.and_eq_false_iff, Bool.not_eq_true', Bool.not_eq_false', decide_eq_true_eq, decide_eq_false_iff_not, bne_iff_ne, bne_eq_false_iff_eq, beq_iff_eq, beq_eq_false_iff_ne] at h0
      refine tri_skip ?_
      refine fin_then ?_
      refine tri_seq ?_
      refine tri_regD hcx [] [4] [] [] [] [(4, .int x)] [] (by kernel_rfl) ?_ ?_
      · exact az
      refine fin_then ?_
      refine tri_ret ?_
      exact fin_ret hcx (avs := [.int x]) (by kernel_rfl) (congrArg AV.int (show x = (bif y then 0 - x else x) from (by rw [hb0]; rfl))) [] rfl
  · cases hσ
def cx_radd17 : Cx := ⟨ty17, [(33, rput17_σ), (70, rturned17_σ)]⟩
theorem cx_radd17_ok : CxOk Tryd.prog cx_radd17 := cx_ok ty17_ok ⟨rput17_sound, rturned17_sound, trivial⟩
def radd17_σ : CtF
  | [.loc 0 0, .im (.ls (.ints l)), .im (.val (.int .i64 s)), .im (.val (.int .i64 c))], [.box [.row 1, .row 2, .im (.val (.int .i64 nx))], .row 22 (.intss rows), .row 22 (.intss cs)] => some ((l.length = 2 ∨ l.length = 3) ∧ (∀ x ∈ l, -100000 ≤ x ∧ x ≤ 100000) ∧ -100000 ≤ s ∧ s ≤ 100000 ∧ -100000 ≤ c ∧ c ≤ 100000 ∧ cs.length ≤ 100000000, .tup [], [some (.box [.row 1, .row 3, .int nx]), some (.row 22 (.intss rows)), none, some (.row 22 (.intss (cs ++ addC l s c)))])
  | _, _ => none
theorem radd17_sound : Sound Tryd.prog 34 radd17_σ := by
  refine sound_mk (cx := cx_radd17) (fn := Tryd.f34) Tryd.func34 (by kernel_rfl) rfl ?_
  intro w0 G0 args os p r outs hσ hp hm0
  have hcx : CxOk Tryd.prog cx_radd17 := cx_radd17_ok
  have hmx : Tryd.prog.follows .mixedOrders = true := by kernel_rfl
  unfold radd17_σ at hσ
  split at hσ
  · rename_i l s c nx rows cs
    simp only [Option.some.injEq, Prod.mk.injEq] at hσ
    obtain ⟨rfl, rfl, rfl⟩ := hσ
    obtain ⟨wW, wO, wm, wβ⟩ := w0
    replace hm0 : wm = 3 := hm0
    subst hm0
    refine ⟨by kernel_rfl, ?_⟩
    change Tri ⟨_, _, _, _, _⟩ [(0, .loc 0 0), (1, .ints l), (2, .int s), (3, .int c)] [(0, .box [.row 1, .row 2, .int nx]), (1, .row 22 (.intss rows)), (2, .row 22 (.intss cs))] _ _
    obtain ⟨hl, hlx, hs0, hs1, hc0, hc1, hcl⟩ := hp
    have hpw : ((1 : Int) * 2 ^ ((l.length : Int)).toNat) = ((2 ^ l.length : Nat) : Int) := by simp
    have hp8 : 2 ^ l.length ≤ 8 := by rcases hl with h | h <;> rw [h] <;> decide
    have hp1 : 1 ≤ 2 ^ l.length := Nat.one_le_two_pow
    have hg : ∀ k, k < l.length → -100000 ≤ l.getD k 0 ∧ l.getD k 0 ≤ 100000 := fun k h => hlx _ (getD_in h)
    refine tri_seq ?_
    refine tri_seq ?_
    refine tri_regD hcx [] [8] [0, 1, 2, 3] [0, 1, 2] [] [(8, .int 0)] [] (by kernel_rfl) ?_ ?_
    · exact az
    refine fin_then ?_
    refine tri_block ?_
    refine tri_ren (ρ := [(0, .to 0), (1, .to 1), (2, .to 20)]) (keys := [0, 1, 2, 3, 8]) (E' := [(0, .loc 0 0), (1, .ints l), (2, .int s), (3, .int c), (8, .int 0)]) (H' := [(0, .box [.row 1, .row 20, .int nx]), (1, .row 22 (.intss rows)), (20, .row 22 (.intss cs))]) (by kernel_rfl) ?_
    refine tri_loop (X := Nat) (fun x0 => x0 ≤ 2 ^ l.length) (fun x0 => [(0, .loc 0 0), (1, .ints l), (2, .int s), (3, .int c), (8, .int (x0 : Int))]) (fun x0 => [(0, .box [.row 1, .row 20, .int nx]), (1, .row 22 (.intss rows)), (20, .row 22 (.intss (cs ++ (List.range x0).map (cls1 l s))))]) (fun x0 => 2 ^ l.length - x0) (0) ?_ ?_ ?_ ?_
    · show 0 ≤ 2 ^ l.length
      omega
    · exact subE_mk (l := [.loc 0 0, .ints l, .int s, .int c, .int 0]) (m := [.loc 0 0, .ints l, .int s, .int c, .int (0 : Int)]) (by kernel_rfl) (by kernel_rfl) (consE rfl (consE rfl (consE rfl (consE rfl (consE (congrArg AV.int (show 0 = (0 : Int) from (by first | rfl | omega | (simp; done)))) rfl)))))
    · exact Eq.trans (show _ = [(0, .box [.row 1, .row 20, .int nx]), (1, .row 22 (.intss rows)), (20, .row 22 (.intss cs))] from by kernel_rfl) (consH rfl (consH rfl (consH (congrArg (fun x => ((20 : Nat), x)) (congrArg (fun x => AObj.row 22 (.intss x)) (show cs = (cs ++ (List.range 0).map (cls1 l s)) from (by simp)))) rfl)))
    · intro n hI
      replace hI : n ≤ 2 ^ l.length := hI
      change Tri _ [(0, .loc 0 0), (1, .ints l), (2, .int s), (3, .int c), (8, .int (n : Int))] [(0, .box [.row 1, .row 20, .int nx]), (1, .row 22 (.intss rows)), (20, .row 22 (.intss (cs ++ (List.range n).map (cls1 l s))))] _ _
      refine tri_seq ?_
      refine tri_seq ?_
      refine tri_regD hcx [] [18] [0, 1, 2, 3, 8] [0, 1, 20] [inK .u64 (l.length : Int), ((0 : Int) ≤ (l.length : Int) ∧ (l.length : Int) ≤ 64 ∧ Fit (1 * 2 ^ (l.length : Int).toNat))] [(18, .bool (decide ((n : Int) < (1 * 2 ^ (l.length : Int).toNat))))] [] (by kernel_rfl) ?_ ?_
      · refine (ap (by exact ⟨by omega, by omega⟩) (ap ?_ az))
        rw [hpw]; exact ⟨by omega, by omega, by constructor <;> omega⟩
      refine fin_then ?_
      refine tri_cond (b := (decide ((n : Int) < (1 * 2 ^ (l.length : Int).toNat)))) (by kernel_rfl) (fun hb0 => ?_) (fun hb0 => ?_)
      · skip
        have h0 := of_decide_eq_true hb0
        rw [hpw] at h0
        refine tri_skip ?_
        refine fin_then ?_
        refine tri_seq ?_
        refine tri_block ?_
        refine tri_seq ?_
        refine tri_regD hcx [] [9] [0, 1, 2, 3, 8] [0, 1, 20] [] [(9, .im (.val (.slice none 0 0)))] [] (by kernel_rfl) ?_ ?_
        · exact az
        refine fin_then ?_
        refine tri_seq ?_
        refine tri_regD hcx [] [10] [9, 0, 1, 2, 3, 8] [0, 1, 20] [] [(10, .bool false)] [] (by kernel_rfl) ?_ ?_
        · exact az
        refine fin_then ?_
        refine tri_seq ?_
        refine tri_seq ?_
        refine tri_regD hcx [] [11] [10, 9, 0, 1, 2, 3, 8] [0, 1, 20] [] [(11, .int 0)] [] (by kernel_rfl) ?_ ?_
        · exact az
        refine fin_then ?_
        refine tri_block ?_
        refine tri_row 9 10 3 (.ints []) (by kernel_rfl) (by kernel_rfl) (by kernel_rfl) (by kernel_rfl) (E' := [(11, .int 0), (10, .bool false), (9, .row 10), (0, .loc 0 0), (1, .ints l), (2, .int s), (3, .int c), (8, .int (n : Int))]) (by kernel_rfl) ?_
        refine tri_ren (ρ := [(0, .to 0), (1, .to 1), (10, .to 10), (20, .to 20)]) (keys := [0, 1, 2, 3, 8, 9, 10, 11]) (E' := [(0, .loc 0 0), (1, .ints l), (2, .int s), (3, .int c), (8, .int (n : Int)), (9, .row 10), (10, .bool false), (11, .int 0)]) (H' := [(0, .box [.row 1, .row 20, .int nx]), (1, .row 22 (.intss rows)), (10, .row 3 (.ints [])), (20, .row 22 (.intss (cs ++ (List.range n).map (cls1 l s))))]) (by kernel_rfl) ?_
        refine tri_loop (X := Nat) (fun x0 => x0 ≤ l.length) (fun x0 => [(0, .loc 0 0), (1, .ints l), (2, .int s), (3, .int c), (8, .int (n : Int)), (9, .row 10), (10, .bool (par n x0)), (11, .int (x0 : Int))]) (fun x0 => [(0, .box [.row 1, .row 20, .int nx]), (1, .row 22 (.intss rows)), (10, .row 3 (.ints (sgs l n x0))), (20, .row 22 (.intss (cs ++ (List.range n).map (cls1 l s))))]) (fun x0 => l.length - x0) (0) ?_ ?_ ?_ ?_
        · show 0 ≤ l.length
          omega
        · exact subE_mk (l := [.loc 0 0, .ints l, .int s, .int c, .int (n : Int), .row 10, .bool false, .int 0]) (m := [.loc 0 0, .ints l, .int s, .int c, .int (n : Int), .row 10, .bool (par n 0), .int (0 : Int)]) (by kernel_rfl) (by kernel_rfl) (consE rfl (consE rfl (consE rfl (consE rfl (consE rfl (consE rfl (consE (congrArg AV.bool (show false = (par n 0) from (by rfl))) (consE (congrArg AV.int (show 0 = (0 : Int) from (by first | rfl | omega | (simp; done)))) rfl))))))))
        · exact Eq.trans (show _ = [(0, .box [.row 1, .row 20, .int nx]), (1, .row 22 (.intss rows)), (10, .row 3 (.ints [])), (20, .row 22 (.intss (cs ++ (List.range n).map (cls1 l s))))] from by kernel_rfl) (consH rfl (consH rfl (consH (congrArg (fun x => ((10 : Nat), x)) (congrArg (fun x => AObj.row 3 (.ints x)) (show [] = (sgs l n 0) from (by simp [sgs])))) (consH rfl rfl))))
        · intro i hI
          replace hI : i ≤ l.length := hI
          change Tri _ [(0, .loc 0 0), (1, .ints l), (2, .int s), (3, .int c), (8, .int (n : Int)), (9, .row 10), (10, .bool (par n i)), (11, .int (i : Int))] [(0, .box [.row 1, .row 20, .int nx]), (1, .row 22 (.intss rows)), (10, .row 3 (.ints (sgs l n i))), (20, .row 22 (.intss (cs ++ (List.range n).map (cls1 l s))))] _ _
          have hsl := sgs_len l n i
          have hli : i < l.length → Fit (0 - l.getD i 0) := fun h => by have := hg i h; constructor <;> omega
          have hbit : (andI ((n : Int) / 2 ^ ((i : Int)).toNat) 1 == 1) = n.testBit i := bitI (by omega) i
          refine tri_seq ?_
          refine tri_seq ?_
          refine tri_regD hcx [] [24] [0, 1, 2, 3, 8, 9, 10, 11] [0, 1, 10, 20] [] [(24, .bool (decide ((i : Int) < (l.length : Int))))] [] (by kernel_rfl) ?_ ?_
          · exact az
          refine fin_then ?_
          refine tri_cond (b := (decide ((i : Int) < (l.length : Int)))) (by kernel_rfl) (fun hb1 => ?_) (fun hb1 => ?_)
          · skip
            have h1 := of_decide_eq_true hb1
            refine tri_skip ?_
            refine fin_then ?_
            refine tri_seq ?_
            refine tri_block ?_
            refine tri_seq ?_
            refine tri_regD hcx [] [12] [0, 1, 2, 3, 8, 9, 10, 11] [0, 1, 10, 20] [inK .u64 (i : Int), ((0 : Int) ≤ (i : Int) ∧ (i : Int) ≤ 64)] [(12, .bool ((andI ((n : Int) / 2 ^ (i : Int).toNat) 1) == 1))] [] (by kernel_rfl) ?_ ?_
            · refine (ap (by exact ⟨by omega, by omega⟩) (ap ?_ az))
              first | omega | exact id | exact vcNot | exact vcG | exact vcH | (intro _; omega) | exact (fun _ h => h) | (intro h; simp at h; omega) | (simp only [List.length_cons, List.length_nil, List.length_append, List.length_map, List.length_set, List.length_replicate]; omega) | (intro h; simp [h]; done) | (simp only [List.length_cons, List.length_nil, List.length_append, List.length_map, List.length_range]; omega) | exact hli (by omega) | (constructor <;> omega)
            refine fin_then ?_
            refine tri_seq ?_
            refine tri_regD hcx [] [10] [12, 0, 1, 2, 3, 8, 9, 11] [0, 1, 10, 20] [] [(10, .bool (!((par n i) == ((andI ((n : Int) / 2 ^ (i : Int).toNat) 1) == 1))))] [] (by kernel_rfl) ?_ ?_
            · exact az
            refine fin_then ?_
            refine tri_regD hcx [(1008, .to 10)] [9] [10, 0, 1, 2, 3, 8, 11] [0, 1, 20] [((0 : Int) ≤ (i : Int) ∧ (i : Int) < (l.length : Int)), (Fit (0 - (l.getD i 0))), (((sgs l n i).length + [(bif ((andI ((n : Int) / 2 ^ (i : Int).toNat) 1) == 1) then 0 - (l.getD i 0) else (l.getD i 0))].length) * 8 ≤ 140737488355328)] [(9, .row 10)] [(10, .row 3 (.ints ((sgs l n i) ++ [(bif ((andI ((n : Int) / 2 ^ (i : Int).toNat) 1) == 1) then 0 - (l.getD i 0) else (l.getD i 0))])))] (by kernel_rfl) ?_ ?_
            · refine (ap ?_ (ap ?_ (ap ?_ az)))
              all_goals
                first | omega | exact id | exact vcNot | exact vcG | exact vcH | (intro _; omega) | exact (fun _ h => h) | (intro h; simp at h; omega) | (simp only [List.length_cons, List.length_nil, List.length_append, List.length_map, List.length_set, List.length_replicate]; omega) | (intro h; simp [h]; done) | (simp only [List.length_cons, List.length_nil, List.length_append, List.length_map, List.length_range]; omega) | exact hli (by omega) | (constructor <;> omega)
            refine fin_block ?_
            refine fin_then ?_
            refine tri_regD hcx [] [11] [9, 10, 0, 1, 2, 3, 8] [10, 0, 1, 20] [Fit ((i : Int) + 1)] [(11, .int ((i : Int) + 1))] [] (by kernel_rfl) ?_ ?_
            · refine (ap ?_ az)
              first | omega | exact id | exact vcNot | exact vcG | exact vcH | (intro _; omega) | exact (fun _ h => h) | (intro h; simp at h; omega) | (simp only [List.length_cons, List.length_nil, List.length_append, List.length_map, List.length_set, List.length_replicate]; omega) | (intro h; simp [h]; done) | (simp only [List.length_cons, List.length_nil, List.length_append, List.length_map, List.length_range]; omega) | exact hli (by omega) | (constructor <;> omega)
            refine fin_ren (ρ := [(0, .to 0), (1, .to 1), (10, .to 10), (20, .to 20)]) (keys := [0, 1, 2, 3, 8, 9, 10, 11]) (E' := [(0, .loc 0 0), (1, .ints l), (2, .int s), (3, .int c), (8, .int (n : Int)), (9, .row 10), (10, .bool (!((par n i) == ((andI ((n : Int) / 2 ^ (i : Int).toNat) 1) == 1)))), (11, .int ((i : Int) + 1))]) (H' := [(0, .box [.row 1, .row 20, .int nx]), (1, .row 22 (.intss rows)), (10, .row 3 (.ints ((sgs l n i) ++ [(bif ((andI ((n : Int) / 2 ^ (i : Int).toNat) 1) == 1) then 0 - (l.getD i 0) else (l.getD i 0))]))), (20, .row 22 (.intss (cs ++ (List.range n).map (cls1 l s))))]) (by kernel_rfl) ?_
            refine fin_round (i + 1) ?_ ?_ ?_ ?_
            · show (i + 1) ≤ l.length
              omega
            · show l.length - (i + 1) < l.length - i
              omega
            · exact subE_mk (l := [.loc 0 0, .ints l, .int s, .int c, .int (n : Int), .row 10, .bool (!((par n i) == ((andI ((n : Int) / 2 ^ (i : Int).toNat) 1) == 1))), .int ((i : Int) + 1)]) (m := [.loc 0 0, .ints l, .int s, .int c, .int (n : Int), .row 10, .bool (par n (i + 1)), .int ((i + 1) : Int)]) (by kernel_rfl) (by kernel_rfl) (consE rfl (consE rfl (consE rfl (consE rfl (consE rfl (consE rfl (consE (congrArg AV.bool (show (!((par n i) == ((andI ((n : Int) / 2 ^ (i : Int).toNat) 1) == 1))) = (par n (i + 1)) from (by rw [hbit, par_succ]; rfl))) (consE (congrArg AV.int (show ((i : Int) + 1) = ((i + 1) : Int) from (by first | rfl | omega | (simp; done)))) rfl))))))))
            · exact Eq.trans (show _ = [(0, .box [.row 1, .row 20, .int nx]), (1, .row 22 (.intss rows)), (10, .row 3 (.ints ((sgs l n i) ++ [(bif ((andI ((n : Int) / 2 ^ (i : Int).toNat) 1) == 1) then 0 - (l.getD i 0) else (l.getD i 0))]))), (20, .row 22 (.intss (cs ++ (List.range n).map (cls1 l s))))] from by kernel_rfl) (consH rfl (consH rfl (consH (congrArg (fun x => ((10 : Nat), x)) (congrArg (fun x => AObj.row 3 (.ints x)) (show ((sgs l n i) ++ [(bif ((andI ((n : Int) / 2 ^ (i : Int).toNat) 1) == 1) then 0 - (l.getD i 0) else (l.getD i 0))]) = (sgs l n (i + 1)) from (by rw [hbit]; exact sgs_bit (by omega))))) (consH rfl rfl))))
          · skip
            have h1 := of_decide_eq_false hb1
            refine tri_exit ?_
            refine fin_then_exit ?_
            refine fin_then_exit ?_
            refine fin_block_same ?_
            refine fin_then ?_
            refine tri_seq ?_
            refine tri_regD hcx [(1006, .to 10)] [9] [0, 1, 2, 3, 8] [0, 1, 20] [(Fit (0 - s)), (((sgs l n i).length + [(bif (!(par n i)) then 0 - s else s)].length) * 8 ≤ 140737488355328)] [(9, .row 10)] [(10, .row 3 (.ints ((sgs l n i) ++ [(bif (!(par n i)) then 0 - s else s)])))] (by kernel_rfl) ?_ ?_
            · refine (ap ?_ (ap ?_ az))
              all_goals
                first | omega | exact id | exact vcNot | exact vcG | exact vcH | (intro _; omega) | exact (fun _ h => h) | (intro h; simp at h; omega) | (simp only [List.length_cons, List.length_nil, List.length_append, List.length_map, List.length_set, List.length_replicate]; omega) | (intro h; simp [h]; done) | (simp only [List.length_cons, List.length_nil, List.length_append, List.length_map, List.length_range]; omega) | exact hli (by omega) | (constructor <;> omega)
            refine fin_then ?_
            refine tri_regD hcx [(0, .to 0), (1007, .to 20)] [] [0, 1, 2, 3, 8] [1] [(((cs ++ (List.range n).map (cls1 l s)).length + [((sgs l n i) ++ [(bif (!(par n i)) then 0 - s else s)])].length) * 24 ≤ 140737488355328)] [] [(0, .box [.row 1, .row 20, .int nx]), (20, .row 22 (.intss ((cs ++ (List.range n).map (cls1 l s)) ++ [((sgs l n i) ++ [(bif (!(par n i)) then 0 - s else s)])])))] (by kernel_rfl) ?_ ?_
            · refine (ap ?_ az)
              first | omega | exact id | exact vcNot | exact vcG | exact vcH | (intro _; omega) | exact (fun _ h => h) | (intro h; simp at h; omega) | (simp only [List.length_cons, List.length_nil, List.length_append, List.length_map, List.length_set, List.length_replicate]; omega) | (intro h; simp [h]; done) | (simp only [List.length_cons, List.length_nil, List.length_append, List.length_map, List.length_range]; omega) | exact hli (by omega) | (constructor <;> omega)
            refine fin_block ?_
            refine fin_then ?_
            refine tri_regD hcx [] [8] [0, 1, 2, 3] [0, 20, 1] [Fit ((n : Int) + 1)] [(8, .int ((n : Int) + 1))] [] (by kernel_rfl) ?_ ?_
            · refine (ap ?_ az)
              first | omega | exact id | exact vcNot | exact vcG | exact vcH | (intro _; omega) | exact (fun _ h => h) | (intro h; simp at h; omega) | (simp only [List.length_cons, List.length_nil, List.length_append, List.length_map, List.length_set, List.length_replicate]; omega) | (intro h; simp [h]; done) | (simp only [List.length_cons, List.length_nil, List.length_append, List.length_map, List.length_range]; omega) | exact hli (by omega) | (constructor <;> omega)
            refine fin_ren (ρ := [(0, .to 0), (1, .to 1), (20, .to 20)]) (keys := [0, 1, 2, 3, 8]) (E' := [(0, .loc 0 0), (1, .ints l), (2, .int s), (3, .int c), (8, .int ((n : Int) + 1))]) (H' := [(0, .box [.row 1, .row 20, .int nx]), (1, .row 22 (.intss rows)), (20, .row 22 (.intss ((cs ++ (List.range n).map (cls1 l s)) ++ [((sgs l n i) ++ [(bif (!(par n i)) then 0 - s else s)])])))]) (by kernel_rfl) ?_
            refine fin_round (n + 1) ?_ ?_ ?_ ?_
            · show (n + 1) ≤ 2 ^ l.length
              omega
            · show 2 ^ l.length - (n + 1) < 2 ^ l.length - n
              omega
            · exact subE_mk (l := [.loc 0 0, .ints l, .int s, .int c, .int ((n : Int) + 1)]) (m := [.loc 0 0, .ints l, .int s, .int c, .int ((n + 1) : Int)]) (by kernel_rfl) (by kernel_rfl) (consE rfl (consE rfl (consE rfl (consE rfl (consE (congrArg AV.int (show ((n : Int) + 1) = ((n + 1) : Int) from (by first | rfl | omega | (simp; done)))) rfl)))))
            · exact Eq.trans (show _ = [(0, .box [.row 1, .row 20, .int nx]), (1, .row 22 (.intss rows)), (20, .row 22 (.intss ((cs ++ (List.range n).map (cls1 l s)) ++ [((sgs l n i) ++ [(bif (!(par n i)) then 0 - s else s)])])))] from by kernel_rfl) (consH rfl (consH rfl (consH (congrArg (fun x => ((20 : Nat), x)) (congrArg (fun x => AObj.row 22 (.intss x)) (show ((cs ++ (List.range n).map (cls1 l s)) ++ [((sgs l n i) ++ [(bif (!(par n i)) then 0 - s else s)])]) = (cs ++ (List.range (n + 1)).map (cls1 l s)) from (by rw [cls_last (by omega) hl (by omega), List.range_succ, List.map_append, List.append_assoc]; rfl)))) rfl)))
      · skip
        have h0 := of_decide_eq_false hb0
        rw [hpw] at h0
        have g0 := hg 0 (by omega)
        have g1 := hg 1 (by omega)
        refine tri_exit ?_
        refine fin_then_exit ?_
        refine fin_then_exit ?_
        refine fin_block_same ?_
        refine fin_then ?_
        refine tri_seq ?_
        refine tri_seq ?_
        refine tri_regD hcx [] [64] [0, 1, 3] [0, 1, 20] [] [(64, .bool ((l.length : Int) == 2))] [] (by kernel_rfl) ?_ ?_
        · exact az
        refine fin_then ?_
        refine tri_cond (b := ((l.length : Int) == 2)) (by kernel_rfl) (fun hb2 => ?_) (fun hb2 => ?_)
        · skip
          have h2 := eq_of_beq hb2
          refine tri_seq ?_
          refine tri_drawD [0, 0, 2, 6, 14, 0, 32, 96, 224, 0, 512, 1536, 3584, 0, 16352, 0, 32768, 98304, 0, 262144, 1015808, 0, 2097152, 6291456, 0, 16777216, 65011712, 134217696, 268435454, 536870911, 1073741823, 2147483647] hcx hmx [(0, .to 0), (1028, .to 20)] [] [] [1] [((0 : Int) ≤ 0 ∧ 0 < (l.length : Int)), Fit (0 - (l.getD 0 0)), ((0 : Int) ≤ 1 ∧ 1 < (l.length : Int)), Fit (0 - (l.getD 1 0)), ((0 : Int) ≤ 0 ∧ 0 < (l.length : Int)), Fit (0 - c), ((0 : Int) ≤ 1 ∧ 1 < (l.length : Int)), Fit (0 - c), (((cs ++ (List.range n).map (cls1 l s)).length + [[(0 - (l.getD 0 0)), (0 - (l.getD 1 0)), c], [(l.getD 0 0), (0 - c)], [(l.getD 1 0), (0 - c)]].length) * 24 ≤ 140737488355328)] [] [(0, .box [.row 1, .row 20, .int nx]), (20, .row 22 (.intss ((cs ++ (List.range n).map (cls1 l s)) ++ [[(0 - (l.getD 0 0)), (0 - (l.getD 1 0)), c], [(l.getD 0 0), (0 - c)], [(l.getD 1 0), (0 - c)]])))] (by kernel_rfl) ?_ ?_
          · refine (ap ?_ (ap ?_ (ap ?_ (ap ?_ (ap ?_ (ap ?_ (ap ?_ (ap ?_ (ap ?_ az)))))))))
            all_goals
              first | omega | exact id | exact vcNot | exact vcG | exact vcH | (intro _; omega) | exact (fun _ h => h) | (intro h; simp at h; omega) | (simp only [List.length_cons, List.length_nil, List.length_append, List.length_map, List.length_set, List.length_replicate]; omega) | (intro h; simp [h]; done) | (simp only [List.length_cons, List.length_nil, List.length_append, List.length_map, List.length_range]; omega) | exact hli (by omega) | (constructor <;> omega)
          refine fin_then ?_
          refine tri_ret ?_
          refine fin_then_ret ?_
          refine fin_ren (ρ := [(0, .to 0), (1, .to 1), (20, .to 3)]) (keys := []) (E' := []) (H' := [(0, .box [.row 1, .row 3, .int nx]), (1, .row 22 (.intss rows)), (3, .row 22 (.intss ((cs ++ (List.range n).map (cls1 l s)) ++ [[(0 - (l.getD 0 0)), (0 - (l.getD 1 0)), c], [(l.getD 0 0), (0 - c)], [(l.getD 1 0), (0 - c)]])))]) (by kernel_rfl) ?_
          exact fin_ret hcx (avs := []) (by kernel_rfl) rfl [true, true, false, true] (Eq.trans (show outsOf [(0, .box [.row 1, .row 3, .int nx]), (1, .row 22 (.intss rows)), (3, .row 22 (.intss ((cs ++ (List.range n).map (cls1 l s)) ++ [[(0 - (l.getD 0 0)), (0 - (l.getD 1 0)), c], [(l.getD 0 0), (0 - c)], [(l.getD 1 0), (0 - c)]])))] 0 [true, true, false, true] = [some (.box [.row 1, .row 3, .int nx]), some (.row 22 (.intss rows)), none, some (.row 22 (.intss ((cs ++ (List.range n).map (cls1 l s)) ++ [[(0 - (l.getD 0 0)), (0 - (l.getD 1 0)), c], [(l.getD 0 0), (0 - c)], [(l.getD 1 0), (0 - c)]])))] from by kernel_rfl) (consO rfl (consO rfl (consO rfl (consO (congrArg some (congrArg (fun x => AObj.row 22 (.intss x)) (show ((cs ++ (List.range n).map (cls1 l s)) ++ [[(0 - (l.getD 0 0)), (0 - (l.getD 1 0)), c], [(l.getD 0 0), (0 - c)], [(l.getD 1 0), (0 - c)]]) = (cs ++ addC l s c) from (by rw [show n = 2 ^ l.length by omega, addC_two l s c (by omega), List.append_assoc])))) rfl)))))
        · skip
          have h2 := neB hb2
          have g2 := hg 2 (by omega)
          refine tri_skip ?_
          refine fin_then ?_
          refine tri_seq ?_
          refine tri_drawD [0, 0, 2, 6, 14, 0, 32, 96, 224, 0, 512, 1536, 3584, 0, 16352, 0, 32768, 98304, 229376, 0, 524288, 1572864, 3670016, 0, 16744448, 0, 33554432, 100663296, 234881024, 0, 536870912, 1610612736, 3758096384, 0, 17146314752, 34359738336, 68719476734, 137438953471, 274877906943, 549755813887] hcx hmx [(0, .to 0), (1036, .to 20)] [] [0, 1, 3] [1] [((0 : Int) ≤ 0 ∧ 0 < (l.length : Int)), Fit (0 - (l.getD 0 0)), ((0 : Int) ≤ 1 ∧ 1 < (l.length : Int)), Fit (0 - (l.getD 1 0)), ((0 : Int) ≤ 0 ∧ 0 < (l.length : Int)), Fit (0 - (l.getD 0 0)), ((0 : Int) ≤ 2 ∧ 2 < (l.length : Int)), Fit (0 - (l.getD 2 0)), ((0 : Int) ≤ 1 ∧ 1 < (l.length : Int)), Fit (0 - (l.getD 1 0)), ((0 : Int) ≤ 2 ∧ 2 < (l.length : Int)), Fit (0 - (l.getD 2 0)), (((cs ++ (List.range n).map (cls1 l s)).length + [[(0 - (l.getD 0 0)), (0 - (l.getD 1 0)), c], [(0 - (l.getD 0 0)), (0 - (l.getD 2 0)), c], [(0 - (l.getD 1 0)), (0 - (l.getD 2 0)), c]].length) * 24 ≤ 140737488355328)] [] [(0, .box [.row 1, .row 20, .int nx]), (20, .row 22 (.intss ((cs ++ (List.range n).map (cls1 l s)) ++ [[(0 - (l.getD 0 0)), (0 - (l.getD 1 0)), c], [(0 - (l.getD 0 0)), (0 - (l.getD 2 0)), c], [(0 - (l.getD 1 0)), (0 - (l.getD 2 0)), c]])))] (by kernel_rfl) ?_ ?_
          · refine (ap ?_ (ap ?_ (ap ?_ (ap ?_ (ap ?_ (ap ?_ (ap ?_ (ap ?_ (ap ?_ (ap ?_ (ap ?_ (ap ?_ (ap ?_ az)))))))))))))
            all_goals
              first | omega | exact id | exact vcNot | exact vcG | exact vcH | (intro _; omega) | exact (fun _ h => h) | (intro h; simp at h; omega) | (simp only [List.length_cons, List.length_nil, List.length_append, List.length_map, List.length_set, List.length_replicate]; omega) | (intro h; simp [h]; done) | (simp only [List.length_cons, List.length_nil, List.length_append, List.length_map, List.length_range]; omega) | exact hli (by omega) | (constructor <;> omega)
          refine fin_then ?_
          refine tri_drawD [0, 0, 2, 6, 14, 0, 32, 96, 0, 256, 768, 0, 2048, 8160, 0, 16384, 49152, 0, 131072, 393216, 0, 1048576, 4177920, 0, 8388608, 25165824, 0, 67108864, 201326592, 0, 536870912, 2139095040, 4294967264, 8589934590, 17179869183, 34359738367, 68719476735] hcx hmx [(0, .to 0), (1033, .to 20)] [] [] [1] [((0 : Int) ≤ 0 ∧ 0 < (l.length : Int)), ((0 : Int) ≤ 1 ∧ 1 < (l.length : Int)), Fit (0 - c), ((0 : Int) ≤ 0 ∧ 0 < (l.length : Int)), ((0 : Int) ≤ 2 ∧ 2 < (l.length : Int)), Fit (0 - c), ((0 : Int) ≤ 1 ∧ 1 < (l.length : Int)), ((0 : Int) ≤ 2 ∧ 2 < (l.length : Int)), Fit (0 - c), ((((cs ++ (List.range n).map (cls1 l s)) ++ [[(0 - (l.getD 0 0)), (0 - (l.getD 1 0)), c], [(0 - (l.getD 0 0)), (0 - (l.getD 2 0)), c], [(0 - (l.getD 1 0)), (0 - (l.getD 2 0)), c]]).length + [[(l.getD 0 0), (l.getD 1 0), (0 - c)], [(l.getD 0 0), (l.getD 2 0), (0 - c)], [(l.getD 1 0), (l.getD 2 0), (0 - c)]].length) * 24 ≤ 140737488355328)] [] [(0, .box [.row 1, .row 20, .int nx]), (20, .row 22 (.intss (((cs ++ (List.range n).map (cls1 l s)) ++ [[(0 - (l.getD 0 0)), (0 - (l.getD 1 0)), c], [(0 - (l.getD 0 0)), (0 - (l.getD 2 0)), c], [(0 - (l.getD 1 0)), (0 - (l.getD 2 0)), c]]) ++ [[(l.getD 0 0), (l.getD 1 0), (0 - c)], [(l.getD 0 0), (l.getD 2 0), (0 - c)], [(l.getD 1 0), (l.getD 2 0), (0 - c)]])))] (by kernel_rfl) ?_ ?_
          · refine (ap ?_ (ap ?_ (ap ?_ (ap ?_ (ap ?_ (ap ?_ (ap ?_ (ap ?_ (ap ?_ (ap ?_ az))))))))))
            all_goals
              first | omega | exact id | exact vcNot | exact vcG | exact vcH | (intro _; omega) | exact (fun _ h => h) | (intro h; simp at h; omega) | (simp only [List.length_cons, List.length_nil, List.length_append, List.length_map, List.length_set, List.length_replicate]; omega) | (intro h; simp [h]; done) | (simp only [List.length_cons, List.length_nil, List.length_append, List.length_map, List.length_range]; omega) | exact hli (by omega) | (constructor <;> omega)
          refine fin_ren (ρ := [(0, .to 0), (1, .to 1), (20, .to 3)]) (keys := []) (E' := []) (H' := [(0, .box [.row 1, .row 3, .int nx]), (1, .row 22 (.intss rows)), (3, .row 22 (.intss (((cs ++ (List.range n).map (cls1 l s)) ++ [[(0 - (l.getD 0 0)), (0 - (l.getD 1 0)), c], [(0 - (l.getD 0 0)), (0 - (l.getD 2 0)), c], [(0 - (l.getD 1 0)), (0 - (l.getD 2 0)), c]]) ++ [[(l.getD 0 0), (l.getD 1 0), (0 - c)], [(l.getD 0 0), (l.getD 2 0), (0 - c)], [(l.getD 1 0), (l.getD 2 0), (0 - c)]])))]) (by kernel_rfl) ?_
          exact fin_end hcx (avs := []) (by kernel_rfl) rfl [true, true, false, true] (Eq.trans (show outsOf [(0, .box [.row 1, .row 3, .int nx]), (1, .row 22 (.intss rows)), (3, .row 22 (.intss (((cs ++ (List.range n).map (cls1 l s)) ++ [[(0 - (l.getD 0 0)), (0 - (l.getD 1 0)), c], [(0 - (l.getD 0 0)), (0 - (l.getD 2 0)), c], [(0 - (l.getD 1 0)), (0 - (l.getD 2 0)), c]]) ++ [[(l.getD 0 0), (l.getD 1 0), (0 - c)], [(l.getD 0 0), (l.getD 2 0), (0 - c)], [(l.getD 1 0), (l.getD 2 0), (0 - c)]])))] 0 [true, true, false, true] = [some (.box [.row 1, .row 3, .int nx]), some (.row 22 (.intss rows)), none, some (.row 22 (.intss (((cs ++ (List.range n).map (cls1 l s)) ++ [[(0 - (l.getD 0 0)), (0 - (l.getD 1 0)), c], [(0 - (l.getD 0 0)), (0 - (l.getD 2 0)), c], [(0 - (l.getD 1 0)), (0 - (l.getD 2 0)), c]]) ++ [[(l.getD 0 0), (l.getD 1 0), (0 - c)], [(l.getD 0 0), (l.getD 2 0), (0 - c)], [(l.getD 1 0), (l.getD 2 0), (0 - c)]])))] from by kernel_rfl) (consO rfl (consO rfl (consO rfl (consO (congrArg some (congrArg (fun x => AObj.row 22 (.intss x)) (show (((cs ++ (List.range n).map (cls1 l s)) ++ [[(0 - (l.getD 0 0)), (0 - (l.getD 1 0)), c], [(0 - (l.getD 0 0)), (0 - (l.getD 2 0)), c], [(0 - (l.getD 1 0)), (0 - (l.getD 2 0)), c]]) ++ [[(l.getD 0 0), (l.getD 1 0), (0 - c)], [(l.getD 0 0), (l.getD 2 0), (0 - c)], [(l.getD 1 0), (l.getD 2 0), (0 - c)]]) = (cs ++ addC l s c) from (by rw [show n = 2 ^ l.length by omega, addC_three l s c (by omega)]; simp only [List.append_assoc])))) rfl)))))
  · cases hσ
def cx_rSum17 : Cx := ⟨ty17, [(33, rput17_σ), (70, rturned17_σ), (34, (coeF [.id, .ld (.ints []), .id, .id] radd17_σ))]⟩
theorem cx_rSum17_ok : CxOk Tryd.prog cx_rSum17 := cx_ok ty17_ok ⟨rput17_sound, rturned17_sound, (radd17_sound.coe [.id, .ld (.ints []), .id, .id] rfl), trivial⟩
def rSum17_σ : CtF
  | [.im (.ls (.ints coef)), .im (.ls (.ints l)), .im (.val (.int .i64 next))], [] => some (coef.length ≤ 40 ∧ l.length ≤ 40, .tup [.ints (sumBits (sumP coef l next)), .intss (sumCs (sumP coef l next)), .int (sumNx (sumP coef l next)), .int (sumErr (sumP coef l next))], [])
  | _, _ => none
theorem rSum17_sound : Sound Tryd.prog 14 rSum17_σ := by
  refine sound_mk (cx := cx_rSum17) (fn := Tryd.f14) Tryd.func14 (by kernel_rfl) rfl ?_
  intro w0 G0 args os p r outs hσ hp hm0
  have hcx : CxOk Tryd.prog cx_rSum17 := cx_rSum17_ok
  have hmx : Tryd.prog.follows .mixedOrders = true := by kernel_rfl
  unfold rSum17_σ at hσ
  split at hσ
  · rename_i coef l next
    simp only [Option.some.injEq, Prod.mk.injEq] at hσ
    obtain ⟨rfl, rfl, rfl⟩ := hσ
    obtain ⟨wW, wO, wm, wβ⟩ := w0
    replace hm0 : wm = 0 := hm0
    subst hm0
    refine ⟨by kernel_rfl, ?_⟩
    change Tri ⟨_, _, _, _, _⟩ [(0, .ints coef), (1, .ints l), (2, .int next)] [] _ _
    obtain ⟨hm1, hm2⟩ := hp
    refine tri_seq ?_
    refine tri_regD hcx [] [] [0, 1, 2] [] [] [] [] (by kernel_rfl) ?_ ?_
    · exact az
    refine fin_then ?_
    refine tri_seq ?_
    refine tri_seq ?_
    refine tri_regD hcx [] [33] [0, 1, 2] [] [((!(decide (next < 1))) = true → ((!(decide (next < 1))) = true)), ((decide (next < 1)) = false → (!(decide (next < 1))) = true), ((!((decide (next < 1)) || (decide (next > 65537)))) = true → ((!((decide (next < 1)) || (decide (next > 65537)))) = true)), ((!((decide (next < 1)) || (decide (next > 65537)))) = true → ((!((decide (next < 1)) || (decide (next > 65537)))) = true)), ((!((decide (next < 1)) || (decide (next > 65537)))) = true → ((!((decide (next < 1)) || (decide (next > 65537)))) = true)), ((!((decide (next < 1)) || (decide (next > 65537)))) = true → ((!((decide (next < 1)) || (decide (next > 65537)))) = true)), (((decide (next < 1)) || (decide (next > 65537))) = false → (!((decide (next < 1)) || (decide (next > 65537)))) = true)] [(33, .bool (((decide (next < 1)) || (decide (next > 65537))) || ((coef.length : Int) != (l.length : Int))))] [] (by kernel_rfl) ?_ ?_
    · refine (ap ?_ (ap (by exact vcNot) (ap ?_ (ap ?_ (ap ?_ (ap ?_ (ap (by exact vcNot) az)))))))
      all_goals
        first | omega | exact id | exact vcNot | exact vcG | exact vcH | (intro _; omega) | exact (fun _ h => h) | (intro h; simp at h; omega) | (simp only [List.length_cons, List.length_nil, List.length_append, List.length_map, List.length_set, List.length_replicate]; omega) | (intro h; simp [h]; done) | (simp only [psL_get hsk, psL_len, List.length_cons, List.length_nil, List.length_append, List.length_take, List.length_drop]; omega) | exact ⟨by omega, by omega⟩
    refine fin_then ?_
    refine tri_cond (b := (((decide (next < 1)) || (decide (next > 65537))) || ((coef.length : Int) != (l.length : Int)))) (by kernel_rfl) (fun hb0 => ?_) (fun hb0 => ?_)
    · skip
      have h0 := hb0
      try simp only [Bool.or_eq_true, Bool.or_eq_false_iff, Bool.and_eq_true, Bool.and_eq_false_iff, Bool.not_eq_true', Bool.not_eq_false', decide_eq_true_eq, decide_eq_false_iff_not, bne_iff_ne, bne_eq_false_iff_eq, beq_iff_eq, beq_eq_false_iff_ne] at h0
      have hR : sumP coef l next = .err 1 := sum_no0 (by omega)
      refine tri_seq ?_
      refine tri_regD hcx [] [6, 7, 8, 9] [] [] [] [(6, .im (.val (.slice none 0 0))), (7, .im (.val (.slice none 0 0))), (8, .int 0), (9, .int 1)] [] (by kernel_rfl) ?_ ?_
      · exact az
      refine fin_then ?_
      refine tri_ret ?_
      refine fin_then_ret ?_
      refine fin_nil 6 (.ints []) (by kernel_rfl) (E' := [(6, .ints []), (7, .im (.val (.slice none 0 0))), (8, .int 0), (9, .int 1)]) (by kernel_rfl) ?_
      refine fin_nil 7 (.intss []) (by kernel_rfl) (E' := [(6, .ints []), (7, .intss []), (8, .int 0), (9, .int 1)]) (by kernel_rfl) ?_
      exact fin_ret hcx (avs := [.ints [], .intss [], .int 0, .int 1]) (by kernel_rfl) (congrArg AV.tup (consE (congrArg AV.ints (show [] = (sumBits (sumP coef l next)) from (by rw [hR]; rfl))) (consE (congrArg AV.intss (show [] = (sumCs (sumP coef l next)) from (by rw [hR]; rfl))) (consE (congrArg AV.int (show 0 = (sumNx (sumP coef l next)) from (by rw [hR]; rfl))) (consE (congrArg AV.int (show 1 = (sumErr (sumP coef l next)) from (by rw [hR]; rfl))) rfl))))) [] rfl
    · skip
      have h0 := hb0
      try simp only [Bool.or_eq_true, Bool.or_eq_false_iff, Bool.and_eq_true, Bool.and_eq_false_iff, Bool.not_eq_true', Bool.not_eq_false', decide_eq_true_eq, decide_eq_false_iff_not, bne_iff_ne, bne_eq_false_iff_eq, beq_iff_eq, beq_eq_false_iff_ne] at h0
      refine tri_skip ?_
      refine fin_then ?_
      refine tri_seq ?_
      refine tri_seq ?_
      refine tri_regD hcx [] [10] [0, 1, 2] [] [] [(10, .int 0)] [] (by kernel_rfl) ?_ ?_
      · exact az
      refine fin_then ?_
      refine tri_block ?_
      refine tri_loop (X := Nat) (fun x0 => x0 ≤ l.length ∧ ∀ j, j < x0 → okAt next (coef.getD j 0, l.getD j 0) = true) (fun x0 => [(0, .ints coef), (1, .ints l), (2, .int next), (10, .int (x0 : Int))]) (fun x0 => []) (fun x0 => l.length - x0) (0) ?_ ?_ ?_ ?_
      · show 0 ≤ l.length ∧ ∀ j, j < 0 → okAt next (coef.getD j 0, l.getD j 0) = true
        exact ⟨Nat.zero_le _, fun j hj => by omega⟩
      · exact subE_mk (l := [.ints coef, .ints l, .int next, .int 0]) (m := [.ints coef, .ints l, .int next, .int (0 : Int)]) (by kernel_rfl) (by kernel_rfl) (consE rfl (consE rfl (consE rfl (consE (congrArg AV.int (show 0 = (0 : Int) from (by first | rfl | omega | (simp; done)))) rfl))))
      · kernel_rfl
      · intro i hI
        replace hI : i ≤ l.length ∧ ∀ j, j < i → okAt next (coef.getD j 0, l.getD j 0) = true := hI
        change Tri _ [(0, .ints coef), (1, .ints l), (2, .int next), (10, .int (i : Int))] [] _ _
        obtain ⟨hi, hok⟩ := hI
        refine tri_seq ?_
        refine tri_seq ?_
        refine tri_regD hcx [] [37] [0, 1, 2, 10] [] [] [(37, .bool (decide ((i : Int) < (l.length : Int))))] [] (by kernel_rfl) ?_ ?_
        · exact az
        refine fin_then ?_
        refine tri_cond (b := (decide ((i : Int) < (l.length : Int)))) (by kernel_rfl) (fun hb1 => ?_) (fun hb1 => ?_)
        · skip
          have h1 := of_decide_eq_true hb1
          refine tri_skip ?_
          refine fin_then ?_
          refine tri_seq ?_
          refine tri_block ?_
          refine tri_seq ?_
          refine tri_regD hcx [] [75] [0, 1, 2, 10] [] [((0 : Int) ≤ (i : Int) ∧ (i : Int) < (coef.length : Int)), ((!(decide ((coef.getD i 0) < 0))) = true → ((!(decide ((coef.getD i 0) < 0))) = true)), ((!(decide ((coef.getD i 0) < 0))) = true → ((!(decide ((coef.getD i 0) < 0))) = true)), ((!(decide ((coef.getD i 0) < 0))) = true → ((0 : Int) ≤ (i : Int) ∧ (i : Int) < (coef.length : Int))), ((!(decide ((coef.getD i 0) < 0))) = true → ((!(decide ((coef.getD i 0) < 0))) = true)), ((!(decide ((coef.getD i 0) < 0))) = true → ((!(decide ((coef.getD i 0) < 0))) = true)), ((decide ((coef.getD i 0) < 0)) = false → (!(decide ((coef.getD i 0) < 0))) = true), ((!((decide ((coef.getD i 0) < 0)) || (decide ((coef.getD i 0) > 1099511627776)))) = true → ((!((decide ((coef.getD i 0) < 0)) || (decide ((coef.getD i 0) > 1099511627776)))) = true)), ((!((decide ((coef.getD i 0) < 0)) || (decide ((coef.getD i 0) > 1099511627776)))) = true → ((!((decide ((coef.getD i 0) < 0)) || (decide ((coef.getD i 0) > 1099511627776)))) = true)), ((!((decide ((coef.getD i 0) < 0)) || (decide ((coef.getD i 0) > 1099511627776)))) = true → ((0 : Int) ≤ (i : Int) ∧ (i : Int) < (l.length : Int))), ((!((decide ((coef.getD i 0) < 0)) || (decide ((coef.getD i 0) > 1099511627776)))) = true → ((!((decide ((coef.getD i 0) < 0)) || (decide ((coef.getD i 0) > 1099511627776)))) = true)), ((!((decide ((coef.getD i 0) < 0)) || (decide ((coef.getD i 0) > 1099511627776)))) = true → ((!((decide ((coef.getD i 0) < 0)) || (decide ((coef.getD i 0) > 1099511627776)))) = true)), (((decide ((coef.getD i 0) < 0)) || (decide ((coef.getD i 0) > 1099511627776))) = false → (!((decide ((coef.getD i 0) < 0)) || (decide ((coef.getD i 0) > 1099511627776)))) = true), ((!(((decide ((coef.getD i 0) < 0)) || (decide ((coef.getD i 0) > 1099511627776))) || ((l.getD i 0) == 0))) = true → ((!(((decide ((coef.getD i 0) < 0)) || (decide ((coef.getD i 0) > 1099511627776))) || ((l.getD i 0) == 0))) = true)), ((!(((decide ((coef.getD i 0) < 0)) || (decide ((coef.getD i 0) > 1099511627776))) || ((l.getD i 0) == 0))) = true → ((!(((decide ((coef.getD i 0) < 0)) || (decide ((coef.getD i 0) > 1099511627776))) || ((l.getD i 0) == 0))) = true)), ((!(((decide ((coef.getD i 0) < 0)) || (decide ((coef.getD i 0) > 1099511627776))) || ((l.getD i 0) == 0))) = true → ((0 : Int) ≤ (i : Int) ∧ (i : Int) < (l.length : Int))), ((!(((decide ((coef.getD i 0) < 0)) || (decide ((coef.getD i 0) > 1099511627776))) || ((l.getD i 0) == 0))) = true → ((!(((decide ((coef.getD i 0) < 0)) || (decide ((coef.getD i 0) > 1099511627776))) || ((l.getD i 0) == 0))) = true)), ((!(((decide ((coef.getD i 0) < 0)) || (decide ((coef.getD i 0) > 1099511627776))) || ((l.getD i 0) == 0))) = true → ((!(((decide ((coef.getD i 0) < 0)) || (decide ((coef.getD i 0) > 1099511627776))) || ((l.getD i 0) == 0))) = true)), ((!(((decide ((coef.getD i 0) < 0)) || (decide ((coef.getD i 0) > 1099511627776))) || ((l.getD i 0) == 0))) = true → ((!(((decide ((coef.getD i 0) < 0)) || (decide ((coef.getD i 0) > 1099511627776))) || ((l.getD i 0) == 0))) = true)), ((((decide ((coef.getD i 0) < 0)) || (decide ((coef.getD i 0) > 1099511627776))) || ((l.getD i 0) == 0)) = false → (!(((decide ((coef.getD i 0) < 0)) || (decide ((coef.getD i 0) > 1099511627776))) || ((l.getD i 0) == 0))) = true), ((!((((decide ((coef.getD i 0) < 0)) || (decide ((coef.getD i 0) > 1099511627776))) || ((l.getD i 0) == 0)) || (decide ((l.getD i 0) ≥ next)))) = true → ((!((((decide ((coef.getD i 0) < 0)) || (decide ((coef.getD i 0) > 1099511627776))) || ((l.getD i 0) == 0)) || (decide ((l.getD i 0) ≥ next)))) = true)), ((!((((decide ((coef.getD i 0) < 0)) || (decide ((coef.getD i 0) > 1099511627776))) || ((l.getD i 0) == 0)) || (decide ((l.getD i 0) ≥ next)))) = true → ((!((((decide ((coef.getD i 0) < 0)) || (decide ((coef.getD i 0) > 1099511627776))) || ((l.getD i 0) == 0)) || (decide ((l.getD i 0) ≥ next)))) = true)), ((!((((decide ((coef.getD i 0) < 0)) || (decide ((coef.getD i 0) > 1099511627776))) || ((l.getD i 0) == 0)) || (decide ((l.getD i 0) ≥ next)))) = true → ((0 : Int) ≤ (i : Int) ∧ (i : Int) < (l.length : Int))), ((!((((decide ((coef.getD i 0) < 0)) || (decide ((coef.getD i 0) > 1099511627776))) || ((l.getD i 0) == 0)) || (decide ((l.getD i 0) ≥ next)))) = true → ((!((((decide ((coef.getD i 0) < 0)) || (decide ((coef.getD i 0) > 1099511627776))) || ((l.getD i 0) == 0)) || (decide ((l.getD i 0) ≥ next)))) = true)), ((!((((decide ((coef.getD i 0) < 0)) || (decide ((coef.getD i 0) > 1099511627776))) || ((l.getD i 0) == 0)) || (decide ((l.getD i 0) ≥ next)))) = true → ((!((((decide ((coef.getD i 0) < 0)) || (decide ((coef.getD i 0) > 1099511627776))) || ((l.getD i 0) == 0)) || (decide ((l.getD i 0) ≥ next)))) = true)), ((!((((decide ((coef.getD i 0) < 0)) || (decide ((coef.getD i 0) > 1099511627776))) || ((l.getD i 0) == 0)) || (decide ((l.getD i 0) ≥ next)))) = true → Fit (0 - next)), ((!((((decide ((coef.getD i 0) < 0)) || (decide ((coef.getD i 0) > 1099511627776))) || ((l.getD i 0) == 0)) || (decide ((l.getD i 0) ≥ next)))) = true → ((!((((decide ((coef.getD i 0) < 0)) || (decide ((coef.getD i 0) > 1099511627776))) || ((l.getD i 0) == 0)) || (decide ((l.getD i 0) ≥ next)))) = true)), ((!((((decide ((coef.getD i 0) < 0)) || (decide ((coef.getD i 0) > 1099511627776))) || ((l.getD i 0) == 0)) || (decide ((l.getD i 0) ≥ next)))) = true → ((!((((decide ((coef.getD i 0) < 0)) || (decide ((coef.getD i 0) > 1099511627776))) || ((l.getD i 0) == 0)) || (decide ((l.getD i 0) ≥ next)))) = true)), (((((decide ((coef.getD i 0) < 0)) || (decide ((coef.getD i 0) > 1099511627776))) || ((l.getD i 0) == 0)) || (decide ((l.getD i 0) ≥ next))) = false → (!((((decide ((coef.getD i 0) < 0)) || (decide ((coef.getD i 0) > 1099511627776))) || ((l.getD i 0) == 0)) || (decide ((l.getD i 0) ≥ next)))) = true)] [(75, .bool (((((decide ((coef.getD i 0) < 0)) || (decide ((coef.getD i 0) > 1099511627776))) || ((l.getD i 0) == 0)) || (decide ((l.getD i 0) ≥ next))) || (decide ((l.getD i 0) ≤ (0 - next)))))] [] (by kernel_rfl) ?_ ?_
          · refine (ap ?_ (ap ?_ (ap ?_ (ap ?_ (ap ?_ (ap ?_ (ap (by exact vcNot) (ap ?_ (ap ?_ (ap ?_ (ap ?_ (ap ?_ (ap (by exact vcNot) (ap ?_ (ap ?_ (ap ?_ (ap ?_ (ap ?_ (ap ?_ (ap (by exact vcNot) (ap ?_ (ap ?_ (ap ?_ (ap ?_ (ap ?_ (ap ?_ (ap ?_ (ap ?_ (ap (by exact vcNot) az)))))))))))))))))))))))))))))
            all_goals
              first | omega | exact id | exact vcNot | exact vcG | exact vcH | (intro _; omega) | exact (fun _ h => h) | (intro h; simp at h; omega) | (simp only [List.length_cons, List.length_nil, List.length_append, List.length_map, List.length_set, List.length_replicate]; omega) | (intro h; simp [h]; done) | (simp only [psL_get hsk, psL_len, List.length_cons, List.length_nil, List.length_append, List.length_take, List.length_drop]; omega) | exact ⟨by omega, by omega⟩
          refine fin_then ?_
          refine tri_cond (b := (((((decide ((coef.getD i 0) < 0)) || (decide ((coef.getD i 0) > 1099511627776))) || ((l.getD i 0) == 0)) || (decide ((l.getD i 0) ≥ next))) || (decide ((l.getD i 0) ≤ (0 - next))))) (by kernel_rfl) (fun hb2 => ?_) (fun hb2 => ?_)
          · skip
            have h2 := hb2
            try simp only [Bool.or_eq_true, Bool.or_eq_false_iff, Bool.and_eq_true, Bool.and_eq_false_iff, Bool.not_eq_true', Bool.not_eq_false', decide_eq_true_eq, decide_eq_false_iff_not, bne_iff_ne, bne_eq_false_iff_eq, beq_iff_eq, beq_eq_false_iff_ne] at h2
            have hR : sumP coef l next = .err 1 := sum_no1 (i := i) (by omega) (by omega) (okAt_no (by omega))
            refine tri_seq ?_
            refine tri_regD hcx [] [6, 7, 8, 9] [] [] [] [(6, .im (.val (.slice none 0 0))), (7, .im (.val (.slice none 0 0))), (8, .int 0), (9, .int 1)] [] (by kernel_rfl) ?_ ?_
            · exact az
            refine fin_then ?_
            refine tri_ret ?_
            refine fin_block_ret ?_
            refine fin_then_ret ?_
            refine fin_then_ret ?_
            refine fin_block_ret ?_
            refine fin_then_ret ?_
            refine fin_nil 6 (.ints []) (by kernel_rfl) (E' := [(6, .ints []), (7, .im (.val (.slice none 0 0))), (8, .int 0), (9, .int 1)]) (by kernel_rfl) ?_
            refine fin_nil 7 (.intss []) (by kernel_rfl) (E' := [(6, .ints []), (7, .intss []), (8, .int 0), (9, .int 1)]) (by kernel_rfl) ?_
            exact fin_ret hcx (avs := [.ints [], .intss [], .int 0, .int 1]) (by kernel_rfl) (congrArg AV.tup (consE (congrArg AV.ints (show [] = (sumBits (sumP coef l next)) from (by rw [hR]; rfl))) (consE (congrArg AV.intss (show [] = (sumCs (sumP coef l next)) from (by rw [hR]; rfl))) (consE (congrArg AV.int (show 0 = (sumNx (sumP coef l next)) from (by rw [hR]; rfl))) (consE (congrArg AV.int (show 1 = (sumErr (sumP coef l next)) from (by rw [hR]; rfl))) rfl))))) [] rfl
          · skip
            have h2 := hb2
            try simp only [Bool.or_eq_true, Bool.or_eq_false_iff, Bool.and_eq_true, Bool.and_eq_false_iff, Bool.not_eq_true', Bool.not_eq_false', decide_eq_true_eq, decide_eq_false_iff_not, bne_iff_ne, bne_eq_false_iff_eq, beq_iff_eq, beq_eq_false_iff_ne] at h2
            have hoi : okAt next (coef.getD i 0, l.getD i 0) = true := okAt_iff.2 (by omega)
            refine tri_skip ?_
            refine fin_block ?_
            refine fin_then ?_
            refine tri_regD hcx [] [10] [0, 1, 2] [] [Fit ((i : Int) + 1)] [(10, .int ((i : Int) + 1))] [] (by kernel_rfl) ?_ ?_
            · refine (ap ?_ az)
              first | omega | exact id | exact vcNot | exact vcG | exact vcH | (intro _; omega) | exact (fun _ h => h) | (intro h; simp at h; omega) | (simp only [List.length_cons, List.length_nil, List.length_append, List.length_map, List.length_set, List.length_replicate]; omega) | (intro h; simp [h]; done) | (simp only [psL_get hsk, psL_len, List.length_cons, List.length_nil, List.length_append, List.length_take, List.length_drop]; omega) | exact ⟨by omega, by omega⟩
            refine fin_round (i + 1) ?_ ?_ ?_ ?_
            · show (i + 1) ≤ l.length ∧ ∀ j, j < (i + 1) → okAt next (coef.getD j 0, l.getD j 0) = true
              exact ⟨by omega, fun j hj => (Nat.lt_succ_iff_lt_or_eq.1 hj).elim (hok j) (fun e => e ▸ hoi)⟩
            · show l.length - (i + 1) < l.length - i
              omega
            · exact subE_mk (l := [.ints coef, .ints l, .int next, .int ((i : Int) + 1)]) (m := [.ints coef, .ints l, .int next, .int ((i + 1) : Int)]) (by kernel_rfl) (by kernel_rfl) (consE rfl (consE rfl (consE rfl (consE (congrArg AV.int (show ((i : Int) + 1) = ((i + 1) : Int) from (by first | rfl | omega | (simp; done)))) rfl))))
            · kernel_rfl
        · skip
          have h1 := of_decide_eq_false hb1
          have hall : (coef.zip l).all (okAt next) = true := all_ok (by omega) (fun j hj => hok j (by omega))
          have hgo : ¬ (next < 1 ∨ 65537 < next ∨ coef.length ≠ l.length) := by omega
          refine tri_exit ?_
          refine fin_then_exit ?_
          refine fin_then_exit ?_
          refine fin_block_same ?_
          refine fin_then ?_
          refine tri_seq ?_
          refine tri_seq ?_
          refine tri_regD hcx [] [78] [0, 1, 2] [] [] [(78, .bool (decide ((l.length : Int) > 4096)))] [] (by kernel_rfl) ?_ ?_
          · exact az
          refine fin_then ?_
          refine tri_cond (b := (decide ((l.length : Int) > 4096))) (by kernel_rfl) (fun hb3 => ?_) (fun hb3 => ?_)
          · skip
            have h3 := of_decide_eq_true hb3
            exfalso; omega
          · skip
            have h3 := of_decide_eq_false hb3
            refine tri_skip ?_
            refine fin_then ?_
            refine tri_seq ?_
            refine tri_regD hcx [(1002, .to 681)] [11] [0, 1] [] [] [(11, .loc 681 0)] [(681, .box [.im (.val (.slice none 0 0)), .im (.val (.slice none 0 0)), .int next])] (by kernel_rfl) ?_ ?_
            · exact az
            refine fin_then ?_
            refine tri_seq ?_
            refine tri_seq ?_
            refine tri_regD hcx [] [12] [11, 0, 1] [681] [] [(12, .int 0)] [] (by kernel_rfl) ?_ ?_
            · exact az
            refine fin_then ?_
            refine tri_block ?_
            refine tri_rowB 681 0 10 22 (.intss []) (by kernel_rfl) (by kernel_rfl) (by kernel_rfl) (by kernel_rfl) (H' := [(681, .box [.row 10, .im (.val (.slice none 0 0)), .int next])]) (by kernel_rfl) ?_
            refine tri_rowB 681 1 11 22 (.intss []) (by kernel_rfl) (by kernel_rfl) (by kernel_rfl) (by kernel_rfl) (H' := [(10, .row 22 (.intss [])), (681, .box [.row 10, .row 11, .int next])]) (by kernel_rfl) ?_
            refine tri_ren (ρ := [(10, .to 10), (11, .to 11), (681, .to 681)]) (keys := [0, 1, 11, 12]) (E' := [(0, .ints coef), (1, .ints l), (11, .loc 681 0), (12, .int 0)]) (H' := [(10, .row 22 (.intss [])), (11, .row 22 (.intss [])), (681, .box [.row 10, .row 11, .int next])]) (by kernel_rfl) ?_
            refine tri_loop (X := Nat) (fun x0 => x0 ≤ l.length) (fun x0 => [(0, .ints coef), (1, .ints l), (11, .loc 681 0), (12, .int (x0 : Int))]) (fun x0 => [(10, .row 22 (.intss (fdL (fdA coef l x0)))), (11, .row 22 (.intss [])), (681, .box [.row 10, .row 11, .int next])]) (fun x0 => l.length - x0) (0) ?_ ?_ ?_ ?_
            · show 0 ≤ l.length
              omega
            · exact subE_mk (l := [.ints coef, .ints l, .loc 681 0, .int 0]) (m := [.ints coef, .ints l, .loc 681 0, .int (0 : Int)]) (by kernel_rfl) (by kernel_rfl) (consE rfl (consE rfl (consE rfl (consE (congrArg AV.int (show 0 = (0 : Int) from (by first | rfl | omega | (simp; done)))) rfl))))
            · exact Eq.trans (show _ = [(10, .row 22 (.intss [])), (11, .row 22 (.intss [])), (681, .box [.row 10, .row 11, .int next])] from by kernel_rfl) (consH (congrArg (fun x => ((10 : Nat), x)) (congrArg (fun x => AObj.row 22 (.intss x)) (show [] = (fdL (fdA coef l 0)) from (by rfl)))) (consH rfl (consH rfl rfl)))
            · intro i2 hI
              replace hI : i2 ≤ l.length := hI
              change Tri _ [(0, .ints coef), (1, .ints l), (11, .loc 681 0), (12, .int (i2 : Int))] [(10, .row 22 (.intss (fdL (fdA coef l i2)))), (11, .row 22 (.intss [])), (681, .box [.row 10, .row 11, .int next])] _ _
              have hoc : i2 < l.length → 0 ≤ coef.getD i2 0 ∧ coef.getD i2 0 ≤ 1099511627776 := fun h => by have := okAt_iff.1 (hok i2 (by omega)); omega
              refine tri_seq ?_
              refine tri_seq ?_
              refine tri_regD hcx [] [85] [0, 1, 11, 12] [10, 11, 681] [] [(85, .bool (decide ((i2 : Int) < (l.length : Int))))] [] (by kernel_rfl) ?_ ?_
              · exact az
              refine fin_then ?_
              refine tri_cond (b := (decide ((i2 : Int) < (l.length : Int)))) (by kernel_rfl) (fun hb4 => ?_) (fun hb4 => ?_)
              · skip
                have h4 := of_decide_eq_true hb4
                refine tri_skip ?_
                refine fin_then ?_
                refine tri_seq ?_
                refine tri_block ?_
                refine tri_seq ?_
                refine tri_regD hcx [] [13] [0, 1, 11, 12] [10, 11, 681] [] [(13, .int 0)] [] (by kernel_rfl) ?_ ?_
                · exact az
                refine fin_then ?_
                refine tri_block ?_
                refine tri_loop (X := Nat) (fun x0 => x0 ≤ 64) (fun x0 => [(0, .ints coef), (1, .ints l), (11, .loc 681 0), (12, .int (i2 : Int)), (13, .int (x0 : Int))]) (fun x0 => [(10, .row 22 (.intss (fdL (feedTo (coef.getD i2 0).toNat (l.getD i2 0) (fdA coef l i2) x0)))), (11, .row 22 (.intss [])), (681, .box [.row 10, .row 11, .int next])]) (fun x0 => 64 - x0) (0) ?_ ?_ ?_ ?_
                · show 0 ≤ 64
                  omega
                · exact subE_mk (l := [.ints coef, .ints l, .loc 681 0, .int (i2 : Int), .int 0]) (m := [.ints coef, .ints l, .loc 681 0, .int (i2 : Int), .int (0 : Int)]) (by kernel_rfl) (by kernel_rfl) (consE rfl (consE rfl (consE rfl (consE rfl (consE (congrArg AV.int (show 0 = (0 : Int) from (by first | rfl | omega | (simp; done)))) rfl)))))
                · exact Eq.trans (show _ = [(10, .row 22 (.intss (fdL (fdA coef l i2)))), (11, .row 22 (.intss [])), (681, .box [.row 10, .row 11, .int next])] from by kernel_rfl) (consH (congrArg (fun x => ((10 : Nat), x)) (congrArg (fun x => AObj.row 22 (.intss x)) (show (fdL (fdA coef l i2)) = (fdL (feedTo (coef.getD i2 0).toNat (l.getD i2 0) (fdA coef l i2) 0)) from (by rfl)))) (consH rfl (consH rfl rfl)))
                · intro k hI
                  replace hI : k ≤ 64 := hI
                  change Tri _ [(0, .ints coef), (1, .ints l), (11, .loc 681 0), (12, .int (i2 : Int)), (13, .int (k : Int))] [(10, .row 22 (.intss (fdL (feedTo (coef.getD i2 0).toNat (l.getD i2 0) (fdA coef l i2) k)))), (11, .row 22 (.intss [])), (681, .box [.row 10, .row 11, .int next])] _ _
                  have hfl := fdT_lens coef l (coef.getD i2 0).toNat (l.getD i2 0) (i := i2) (k := k) (by omega) (by omega)
                  have hcc := hoc (by omega)
                  refine tri_seq ?_
                  refine tri_seq ?_
                  refine tri_regD hcx [] [95] [0, 1, 11, 12, 13] [10, 11, 681] [((0 : Int) ≤ (i2 : Int) ∧ (i2 : Int) < (coef.length : Int)), inK .u64 (k : Int), ((0 : Int) ≤ (k : Int) ∧ (k : Int) ≤ 64)] [(95, .bool (decide (((coef.getD i2 0) / 2 ^ (k : Int).toNat) > 0)))] [] (by kernel_rfl) ?_ ?_
                  · refine (ap ?_ (ap (by exact ⟨by omega, by omega⟩) (ap ?_ az)))
                    all_goals
                      first | omega | exact id | exact vcNot | exact vcG | exact vcH | (intro _; omega) | exact (fun _ h => h) | (intro h; simp at h; omega) | (simp only [List.length_cons, List.length_nil, List.length_append, List.length_map, List.length_set, List.length_replicate]; omega) | (intro h; simp [h]; done) | (simp only [psL_get hsk, psL_len, List.length_cons, List.length_nil, List.length_append, List.length_take, List.length_drop]; omega) | exact ⟨by omega, by omega⟩
                  refine fin_then ?_
                  refine tri_cond (b := (decide (((coef.getD i2 0) / 2 ^ (k : Int).toNat) > 0))) (by kernel_rfl) (fun hb5 => ?_) (fun hb5 => ?_)
                  · skip
                    have h5 := of_decide_eq_true hb5
                    have hk41 := bit_lt (by omega) h5
                    refine tri_skip ?_
                    refine fin_then ?_
                    refine tri_seq ?_
                    refine tri_block ?_
                    refine tri_seq ?_
                    refine tri_regD hcx [] [106] [0, 1, 11, 12, 13] [10, 11, 681] [((0 : Int) ≤ (i2 : Int) ∧ (i2 : Int) < (coef.length : Int)), inK .u64 (k : Int), ((0 : Int) ≤ (k : Int) ∧ (k : Int) ≤ 64)] [(106, .bool ((andI ((coef.getD i2 0) / 2 ^ (k : Int).toNat) 1) == 1))] [] (by kernel_rfl) ?_ ?_
                    · refine (ap ?_ (ap (by exact ⟨by omega, by omega⟩) (ap ?_ az)))
                      all_goals
                        first | omega | exact id | exact vcNot | exact vcG | exact vcH | (intro _; omega) | exact (fun _ h => h) | (intro h; simp at h; omega) | (simp only [List.length_cons, List.length_nil, List.length_append, List.length_map, List.length_set, List.length_replicate]; omega) | (intro h; simp [h]; done) | (simp only [psL_get hsk, psL_len, List.length_cons, List.length_nil, List.length_append, List.length_take, List.length_drop]; omega) | exact ⟨by omega, by omega⟩
                    refine fin_then ?_
                    refine tri_cond (b := ((andI ((coef.getD i2 0) / 2 ^ (k : Int).toNat) 1) == 1)) (by kernel_rfl) (fun hb6 => ?_) (fun hb6 => ?_)
                    · skip
                      have h6 := hb6
                      have hbt : (coef.getD i2 0).toNat.testBit k = true := (bitI (by omega) k).symm.trans h6
                      refine tri_regD hcx [(1006, .to 10), (11, .to 11), (681, .to 681)] [] [0, 1, 11, 12, 13] [] [((0 : Int) ≤ (i2 : Int) ∧ (i2 : Int) < (l.length : Int)), (0 ≤ (k : Int) ∧ (k : Int) ≤ 1000000 ∧ (fdL (feedTo (coef.getD i2 0).toNat (l.getD i2 0) (fdA coef l i2) k)).length ≤ 1000000 ∧ ∀ r ∈ (fdL (feedTo (coef.getD i2 0).toNat (l.getD i2 0) (fdA coef l i2) k)), r.length ≤ 1000000)] [] [(10, .row 22 (.intss (putR (fdL (feedTo (coef.getD i2 0).toNat (l.getD i2 0) (fdA coef l i2) k)) (k : Int).toNat (l.getD i2 0)))), (11, .row 22 (.intss [])), (681, .box [.row 10, .row 11, .int next])] (by kernel_rfl) ?_ ?_
                      · refine (ap ?_ (ap (by exact ⟨by omega, by omega, by have := hfl.1; omega, hfl.2⟩) az))
                        first | omega | exact id | exact vcNot | exact vcG | exact vcH | (intro _; omega) | exact (fun _ h => h) | (intro h; simp at h; omega) | (simp only [List.length_cons, List.length_nil, List.length_append, List.length_map, List.length_set, List.length_replicate]; omega) | (intro h; simp [h]; done) | (simp only [psL_get hsk, psL_len, List.length_cons, List.length_nil, List.length_append, List.length_take, List.length_drop]; omega) | exact ⟨by omega, by omega⟩
                      refine fin_block ?_
                      refine fin_then ?_
                      refine tri_regD hcx [] [13] [0, 1, 11, 12] [10, 11, 681] [Fit ((k : Int) + 1)] [(13, .int ((k : Int) + 1))] [] (by kernel_rfl) ?_ ?_
                      · refine (ap ?_ az)
                        first | omega | exact id | exact vcNot | exact vcG | exact vcH | (intro _; omega) | exact (fun _ h => h) | (intro h; simp at h; omega) | (simp only [List.length_cons, List.length_nil, List.length_append, List.length_map, List.length_set, List.length_replicate]; omega) | (intro h; simp [h]; done) | (simp only [psL_get hsk, psL_len, List.length_cons, List.length_nil, List.length_append, List.length_take, List.length_drop]; omega) | exact ⟨by omega, by omega⟩
                      refine fin_round (k + 1) ?_ ?_ ?_ ?_
                      · show (k + 1) ≤ 64
                        omega
                      · show 64 - (k + 1) < 64 - k
                        omega
                      · exact subE_mk (l := [.ints coef, .ints l, .loc 681 0, .int (i2 : Int), .int ((k : Int) + 1)]) (m := [.ints coef, .ints l, .loc 681 0, .int (i2 : Int), .int ((k + 1) : Int)]) (by kernel_rfl) (by kernel_rfl) (consE rfl (consE rfl (consE rfl (consE rfl (consE (congrArg AV.int (show ((k : Int) + 1) = ((k + 1) : Int) from (by first | rfl | omega | (simp; done)))) rfl)))))
                      · exact Eq.trans (show _ = [(10, .row 22 (.intss (putR (fdL (feedTo (coef.getD i2 0).toNat (l.getD i2 0) (fdA coef l i2) k)) (k : Int).toNat (l.getD i2 0)))), (11, .row 22 (.intss [])), (681, .box [.row 10, .row 11, .int next])] from by kernel_rfl) (consH (congrArg (fun x => ((10 : Nat), x)) (congrArg (fun x => AObj.row 22 (.intss x)) (show (putR (fdL (feedTo (coef.getD i2 0).toNat (l.getD i2 0) (fdA coef l i2) k)) (k : Int).toNat (l.getD i2 0)) = (fdL (feedTo (coef.getD i2 0).toNat (l.getD i2 0) (fdA coef l i2) (k + 1))) from (by first | exact fd_yes (fdT_emp coef l i2 _ _ k) hbt | exact fd_no hbt)))) (consH rfl (consH rfl rfl)))
                    · skip
                      have h6 := hb6
                      have hbt : (coef.getD i2 0).toNat.testBit k = false := (bitI (by omega) k).symm.trans h6
                      refine tri_skip ?_
                      refine fin_block ?_
                      refine fin_then ?_
                      refine tri_regD hcx [] [13] [0, 1, 11, 12] [10, 11, 681] [Fit ((k : Int) + 1)] [(13, .int ((k : Int) + 1))] [] (by kernel_rfl) ?_ ?_
                      · refine (ap ?_ az)
                        first | omega | exact id | exact vcNot | exact vcG | exact vcH | (intro _; omega) | exact (fun _ h => h) | (intro h; simp at h; omega) | (simp only [List.length_cons, List.length_nil, List.length_append, List.length_map, List.length_set, List.length_replicate]; omega) | (intro h; simp [h]; done) | (simp only [psL_get hsk, psL_len, List.length_cons, List.length_nil, List.length_append, List.length_take, List.length_drop]; omega) | exact ⟨by omega, by omega⟩
                      refine fin_round (k + 1) ?_ ?_ ?_ ?_
                      · show (k + 1) ≤ 64
                        omega
                      · show 64 - (k + 1) < 64 - k
                        omega
                      · exact subE_mk (l := [.ints coef, .ints l, .loc 681 0, .int (i2 : Int), .int ((k : Int) + 1)]) (m := [.ints coef, .ints l, .loc 681 0, .int (i2 : Int), .int ((k + 1) : Int)]) (by kernel_rfl) (by kernel_rfl) (consE rfl (consE rfl (consE rfl (consE rfl (consE (congrArg AV.int (show ((k : Int) + 1) = ((k + 1) : Int) from (by first | rfl | omega | (simp; done)))) rfl)))))
                      · exact Eq.trans (show _ = [(10, .row 22 (.intss (fdL (feedTo (coef.getD i2 0).toNat (l.getD i2 0) (fdA coef l i2) k)))), (11, .row 22 (.intss [])), (681, .box [.row 10, .row 11, .int next])] from by kernel_rfl) (consH (congrArg (fun x => ((10 : Nat), x)) (congrArg (fun x => AObj.row 22 (.intss x)) (show (fdL (feedTo (coef.getD i2 0).toNat (l.getD i2 0) (fdA coef l i2) k)) = (fdL (feedTo (coef.getD i2 0).toNat (l.getD i2 0) (fdA coef l i2) (k + 1))) from (by first | exact fd_yes (fdT_emp coef l i2 _ _ k) hbt | exact fd_no hbt)))) (consH rfl (consH rfl rfl)))
                  · skip
                    have h5 := of_decide_eq_false hb5
                    refine tri_exit ?_
                    refine fin_then_exit ?_
                    refine fin_then_exit ?_
                    refine fin_block_same ?_
                    refine fin_block ?_
                    refine fin_then ?_
                    refine tri_regD hcx [] [12] [0, 1, 11] [10, 11, 681] [Fit ((i2 : Int) + 1)] [(12, .int ((i2 : Int) + 1))] [] (by kernel_rfl) ?_ ?_
                    · refine (ap ?_ az)
                      first | omega | exact id | exact vcNot | exact vcG | exact vcH | (intro _; omega) | exact (fun _ h => h) | (intro h; simp at h; omega) | (simp only [List.length_cons, List.length_nil, List.length_append, List.length_map, List.length_set, List.length_replicate]; omega) | (intro h; simp [h]; done) | (simp only [psL_get hsk, psL_len, List.length_cons, List.length_nil, List.length_append, List.length_take, List.length_drop]; omega) | exact ⟨by omega, by omega⟩
                    refine fin_round (i2 + 1) ?_ ?_ ?_ ?_
                    · show (i2 + 1) ≤ l.length
                      omega
                    · show l.length - (i2 + 1) < l.length - i2
                      omega
                    · exact subE_mk (l := [.ints coef, .ints l, .loc 681 0, .int ((i2 : Int) + 1)]) (m := [.ints coef, .ints l, .loc 681 0, .int ((i2 + 1) : Int)]) (by kernel_rfl) (by kernel_rfl) (consE rfl (consE rfl (consE rfl (consE (congrArg AV.int (show ((i2 : Int) + 1) = ((i2 + 1) : Int) from (by first | rfl | omega | (simp; done)))) rfl))))
                    · exact Eq.trans (show _ = [(10, .row 22 (.intss (fdL (feedTo (coef.getD i2 0).toNat (l.getD i2 0) (fdA coef l i2) k)))), (11, .row 22 (.intss [])), (681, .box [.row 10, .row 11, .int next])] from by kernel_rfl) (consH (congrArg (fun x => ((10 : Nat), x)) (congrArg (fun x => AObj.row 22 (.intss x)) (show (fdL (feedTo (coef.getD i2 0).toNat (l.getD i2 0) (fdA coef l i2) k)) = (fdL (fdA coef l (i2 + 1))) from (by rw [fdA_succ (by omega) (by omega), feed_stop (hoc (by omega)).1 (by omega) (by assumption)])))) (consH rfl (consH rfl rfl)))
              · skip
                have h4 := of_decide_eq_false hb4
                refine tri_exit ?_
                refine fin_then_exit ?_
                refine fin_then_exit ?_
                refine fin_block_same ?_
                refine fin_then ?_
                refine tri_seq ?_
                refine tri_regD hcx [] [14] [11] [10, 11, 681] [] [(14, .im (.val (.slice none 0 0)))] [] (by kernel_rfl) ?_ ?_
                · exact az
                refine fin_then ?_
                refine tri_seq ?_
                refine tri_seq ?_
                refine tri_regD hcx [] [15] [14, 11] [10, 11, 681] [] [(15, .int 0)] [] (by kernel_rfl) ?_ ?_
                · exact az
                refine fin_then ?_
                refine tri_block ?_
                refine tri_row 14 12 3 (.ints []) (by kernel_rfl) (by kernel_rfl) (by kernel_rfl) (by kernel_rfl) (E' := [(15, .int 0), (14, .row 12), (11, .loc 681 0)]) (by kernel_rfl) ?_
                refine tri_ren (ρ := [(10, .to 10), (11, .to 11), (12, .to 12), (681, .to 681)]) (keys := [11, 14, 15]) (E' := [(11, .loc 681 0), (14, .row 12), (15, .int 0)]) (H' := [(10, .row 22 (.intss (fdL (fdA coef l i2)))), (11, .row 22 (.intss [])), (12, .row 3 (.ints [])), (681, .box [.row 10, .row 11, .int next])]) (by kernel_rfl) ?_
                refine tri_loop (X := Nat × Nat × Go.Proofs.YtogolfneckhnaaaDoor.Ps × List Int) (fun x0 => RS coef l next x0.1 x0.2.1 x0.2.2.1 x0.2.2.2) (fun x0 => [(11, .loc 681 0), (14, .row 12), (15, .int (x0.2.1 : Int))]) (fun x0 => [(10, .row 22 (.intss (psL x0.2.2.1))), (11, .row 22 (.intss x0.2.2.1.cs)), (12, .row 3 (.ints x0.2.2.2)), (681, .box [.row 10, .row 11, .int x0.2.2.1.nx])]) (fun x0 => x0.1) (fuel0, 0, (st0 coef l next), []) ?_ ?_ ?_ ?_
                · show RS coef l next fuel0 0 (st0 coef l next) []
                  exact RS.start (by omega) (by omega) hall (by omega)
                · exact subE_mk (l := [.loc 681 0, .row 12, .int 0]) (m := [.loc 681 0, .row 12, .int (0 : Int)]) (by kernel_rfl) (by kernel_rfl) (consE rfl (consE rfl (consE (congrArg AV.int (show 0 = (0 : Int) from (by first | rfl | omega | (simp; done)))) rfl)))
                · exact Eq.trans (show _ = [(10, .row 22 (.intss (fdL (fdA coef l i2)))), (11, .row 22 (.intss [])), (12, .row 3 (.ints [])), (681, .box [.row 10, .row 11, .int next])] from by kernel_rfl) (consH (congrArg (fun x => ((10 : Nat), x)) (congrArg (fun x => AObj.row 22 (.intss x)) (show (fdL (fdA coef l i2)) = (psL (st0 coef l next)) from (by exact fdA_all (by omega) (by omega) (by omega) next)))) (consH (congrArg (fun x => ((11 : Nat), x)) (congrArg (fun x => AObj.row 22 (.intss x)) (show [] = (st0 coef l next).cs from (by rfl)))) (consH rfl (consH (congrArg (fun x => ((681 : Nat), x)) (congrArg AObj.box (consE rfl (consE rfl (consE (congrArg AV.int (show next = (st0 coef l next).nx from (by rfl))) rfl))))) rfl))))
                · intro ⟨fu, kk, st, ob⟩ hI
                  replace hI : RS coef l next fu kk st ob := hI
                  change Tri _ [(11, .loc 681 0), (14, .row 12), (15, .int (kk : Int))] [(10, .row 22 (.intss (psL st))), (11, .row 22 (.intss st.cs)), (12, .row 3 (.ints ob)), (681, .box [.row 10, .row 11, .int st.nx])] _ _
                  have hRS := hI
                  have hol : ob.length = kk := hRS.2.2.2.2.1
                  have hk4 := hRS.2.2.1.top
                  have hk5 := hRS.2.2.1.hi
                  have hk6 := hRS.2.2.2.1
                  have hk7 := hRS.2.2.1.lo
                  refine tri_seq ?_
                  refine tri_seq ?_
                  refine tri_regD hcx [] [120] [11, 14, 15] [10, 11, 12, 681] [] [(120, .bool (decide ((kk : Int) < ((psL st).length : Int))))] [] (by kernel_rfl) ?_ ?_
                  · exact az
                  refine fin_then ?_
                  refine tri_cond (b := (decide ((kk : Int) < ((psL st).length : Int)))) (by kernel_rfl) (fun hb7 => ?_) (fun hb7 => ?_)
                  · skip
                    have h7 := of_decide_eq_true hb7
                    rw [psL_len] at h7
                    have hkt : (kk : Int) < st.top := by omega
                    refine tri_skip ?_
                    refine fin_then ?_
                    refine tri_seq ?_
                    refine tri_block ?_
                    refine tri_seq ?_
                    refine tri_block ?_
                    refine tri_loop (X := Nat × Go.Proofs.YtogolfneckhnaaaDoor.Ps) (fun x0 => x0.1 ≤ fu ∧ RS coef l next x0.1 kk x0.2 ob ∧ (kk : Int) < x0.2.top) (fun x0 => [(11, .loc 681 0), (14, .row 12), (15, .int (kk : Int))]) (fun x0 => [(10, .row 22 (.intss (psL x0.2))), (11, .row 22 (.intss x0.2.cs)), (12, .row 3 (.ints ob)), (681, .box [.row 10, .row 11, .int x0.2.nx])]) (fun x0 => x0.1) (fu, st) ?_ ?_ ?_ ?_
                    · show fu ≤ fu ∧ RS coef l next fu kk st ob ∧ (kk : Int) < st.top
                      exact ⟨Nat.le_refl _, hRS, hkt⟩
                    · exact subE_mk (l := [.loc 681 0, .row 12, .int (kk : Int)]) (m := [.loc 681 0, .row 12, .int (kk : Int)]) (by kernel_rfl) (by kernel_rfl) rfl
                    · kernel_rfl
                    · intro ⟨fi, si⟩ hI
                      replace hI : fi ≤ fu ∧ RS coef l next fi kk si ob ∧ (kk : Int) < si.top := hI
                      change Tri _ [(11, .loc 681 0), (14, .row 12), (15, .int (kk : Int))] [(10, .row 22 (.intss (psL si))), (11, .row 22 (.intss si.cs)), (12, .row 3 (.ints ob)), (681, .box [.row 10, .row 11, .int si.nx])] _ _
                      obtain ⟨hfi, hSI, hsk⟩ := hI
                      have hgl := psL_len si
                      have hsk2 : kk < (psL si).length := by rw [hgl]; omega
                      refine tri_seq ?_
                      refine tri_seq ?_
                      refine tri_regD hcx [] [131] [11, 14, 15] [10, 11, 12, 681] [((0 : Int) ≤ (kk : Int) ∧ (kk : Int) < ((psL si).length : Int)), (kk < (psL si).length)] [(131, .bool (decide ((((psL si).getD kk []).length : Int) > 1)))] [] (by kernel_rfl) ?_ ?_
                      · refine (ap ?_ (ap ?_ az))
                        all_goals
                          first | omega | exact id | exact vcNot | exact vcG | exact vcH | (intro _; omega) | exact (fun _ h => h) | (intro h; simp at h; omega) | (simp only [List.length_cons, List.length_nil, List.length_append, List.length_map, List.length_set, List.length_replicate]; omega) | (intro h; simp [h]; done) | (simp only [psL_get hsk, psL_len, List.length_cons, List.length_nil, List.length_append, List.length_take, List.length_drop]; omega) | exact ⟨by omega, by omega⟩
                      refine fin_then ?_
                      refine tri_cond (b := (decide ((((psL si).getD kk []).length : Int) > 1))) (by kernel_rfl) (fun hb8 => ?_) (fun hb8 => ?_)
                      · skip
                        have h8 := of_decide_eq_true hb8
                        rw [psL_get hsk] at h8
                        have hl2 : 1 < (si.rows kk).length := by omega
                        have hrw := hSI.rows hsk
                        have hsm := hSI.some hl2
                        have hset := congrArg (fun z => (psL si).set kk z) (drop_min (si.rows kk))
                        have htk := take_min (si.rows kk)
                        have hlo := hSI.2.2.1.lo
                        have hnx := hSI.2.2.1.nx
                        have hhi := hSI.2.2.1.hi
                        have hcl := hSI.2.2.1.cl
                        have htp := hSI.2.2.1.top
                        have hrl := hSI.2.2.1.len kk
                        refine tri_skip ?_
                        refine fin_then ?_
                        refine tri_block ?_
                        refine tri_seq ?_
                        refine tri_regD hcx [] [16] [11, 14, 15] [10, 11, 12, 681] [((0 : Int) ≤ (kk : Int) ∧ (kk : Int) < ((psL si).length : Int)), (kk < (psL si).length)] [(16, .int (min 3 (((psL si).getD kk []).length : Int)))] [] (by kernel_rfl) ?_ ?_
                        · refine (ap ?_ (ap ?_ az))
                          all_goals
                            first | omega | exact id | exact vcNot | exact vcG | exact vcH | (intro _; omega) | exact (fun _ h => h) | (intro h; simp at h; omega) | (simp only [List.length_cons, List.length_nil, List.length_append, List.length_map, List.length_set, List.length_replicate]; omega) | (intro h; simp [h]; done) | (simp only [psL_get hsk, psL_len, List.length_cons, List.length_nil, List.length_append, List.length_take, List.length_drop]; omega) | exact ⟨by omega, by omega⟩
                        refine fin_then ?_
                        refine tri_seq ?_
                        refine tri_regD hcx [(1010, .frz)] [17] [16, 11, 14, 15] [10, 11, 12, 681] [((0 : Int) ≤ (kk : Int) ∧ (kk : Int) < ((psL si).length : Int)), (kk < (psL si).length), ((0 : Int) ≤ (min 3 (((psL si).getD kk []).length : Int)) ∧ (min 3 (((psL si).getD kk []).length : Int)) ≤ (((psL si).getD kk []).length : Int)), ((([] : List Int).length + ((((psL si).getD kk []).take ((min 3 (((psL si).getD kk []).length : Int)).toNat)).drop 0).length) * 8 ≤ 140737488355328)] [(17, .ints ([] ++ ((((psL si).getD kk []).take ((min 3 (((psL si).getD kk []).length : Int)).toNat)).drop 0)))] [] (by kernel_rfl) ?_ ?_
                        · refine (ap ?_ (ap ?_ (ap ?_ (ap ?_ az))))
                          all_goals
                            first | omega | exact id | exact vcNot | exact vcG | exact vcH | (intro _; omega) | exact (fun _ h => h) | (intro h; simp at h; omega) | (simp only [List.length_cons, List.length_nil, List.length_append, List.length_map, List.length_set, List.length_replicate]; omega) | (intro h; simp [h]; done) | (simp only [psL_get hsk, psL_len, List.length_cons, List.length_nil, List.length_append, List.length_take, List.length_drop]; omega) | exact ⟨by omega, by omega⟩
                        refine fin_then ?_
                        refine tri_seq ?_
                        refine tri_drawD [0, 1, 3, 7, 0, 0, 0, 64, 192, 448, 0, 1984, 4032, 0, 16320, 32736, 65535, 131071] hcx hmx [(10, .to 10)] [] [17, 11, 14, 15] [11, 12, 681] [((0 : Int) ≤ (kk : Int) ∧ (kk : Int) < ((psL si).length : Int)), (kk < (psL si).length), ((0 : Int) ≤ (min 3 (((psL si).getD kk []).length : Int)) ∧ (min 3 (((psL si).getD kk []).length : Int)) ≤ (((psL si).getD kk []).length : Int)), ((([] : List Int).length + ((((psL si).getD kk []).take (((psL si).getD kk []).length)).drop ((min 3 (((psL si).getD kk []).length : Int)).toNat)).length) * 8 ≤ 140737488355328), ((0 : Int) ≤ (kk : Int) ∧ (kk : Int) < ((psL si).length : Int)), (kk < (psL si).length)] [] [(10, .row 22 (.intss ((psL si).set kk ([] ++ ((((psL si).getD kk []).take (((psL si).getD kk []).length)).drop ((min 3 (((psL si).getD kk []).length : Int)).toNat))))))] (by kernel_rfl) ?_ ?_
                        · refine (ap ?_ (ap ?_ (ap ?_ (ap ?_ (ap ?_ (ap ?_ az))))))
                          all_goals
                            first | omega | exact id | exact vcNot | exact vcG | exact vcH | (intro _; omega) | exact (fun _ h => h) | (intro h; simp at h; omega) | (simp only [List.length_cons, List.length_nil, List.length_append, List.length_map, List.length_set, List.length_replicate]; omega) | (intro h; simp [h]; done) | (simp only [psL_get hsk, psL_len, List.length_cons, List.length_nil, List.length_append, List.length_take, List.length_drop]; omega) | exact ⟨by omega, by omega⟩
                        refine fin_then ?_
                        refine tri_seq ?_
                        refine tri_drawD [0, 1, 3, 7, 0, 16, 48, 112, 240, 15, 1023] hcx hmx [] [18, 19] [17, 11, 14, 15] [10, 11, 12, 681] [Fit (si.nx + 1)] [(18, .int si.nx), (19, .int (si.nx + 1))] [] (by kernel_rfl) ?_ ?_
                        · refine (ap ?_ az)
                          first | omega | exact id | exact vcNot | exact vcG | exact vcH | (intro _; omega) | exact (fun _ h => h) | (intro h; simp at h; omega) | (simp only [List.length_cons, List.length_nil, List.length_append, List.length_map, List.length_set, List.length_replicate]; omega) | (intro h; simp [h]; done) | (simp only [psL_get hsk, psL_len, List.length_cons, List.length_nil, List.length_append, List.length_take, List.length_drop]; omega) | exact ⟨by omega, by omega⟩
                        refine fin_then ?_
                        refine tri_seq ?_
                        refine tri_regD hcx [(681, .to 681)] [] [18, 19, 17, 11, 14, 15] [10, 11, 12] [Fit (si.nx + 2)] [] [(681, .box [.row 10, .row 11, .int (si.nx + 2)])] (by kernel_rfl) ?_ ?_
                        · refine (ap ?_ az)
                          first | omega | exact id | exact vcNot | exact vcG | exact vcH | (intro _; omega) | exact (fun _ h => h) | (intro h; simp at h; omega) | (simp only [List.length_cons, List.length_nil, List.length_append, List.length_map, List.length_set, List.length_replicate]; omega) | (intro h; simp [h]; done) | (simp only [psL_get hsk, psL_len, List.length_cons, List.length_nil, List.length_append, List.length_take, List.length_drop]; omega) | exact ⟨by omega, by omega⟩
                        refine fin_then ?_
                        refine tri_seq ?_
                        refine tri_seq ?_
                        refine tri_regD hcx [] [190] [18, 19, 17, 11, 14, 15] [681, 10, 11, 12] [] [(190, .bool (decide ((si.nx + 2) > 65537)))] [] (by kernel_rfl) ?_ ?_
                        · exact az
                        refine fin_then ?_
                        refine tri_cond (b := (decide ((si.nx + 2) > 65537))) (by kernel_rfl) (fun hb9 => ?_) (fun hb9 => ?_)
                        · skip
                          have h9 := of_decide_eq_true hb9
                          have hR := hSI.full hsk hl2 (by omega) hgo hall (by omega)
                          refine tri_seq ?_
                          refine tri_regD hcx [] [6, 7, 8, 9] [] [] [] [(6, .im (.val (.slice none 0 0))), (7, .im (.val (.slice none 0 0))), (8, .int 0), (9, .int 2)] [] (by kernel_rfl) ?_ ?_
                          · exact az
                          refine fin_then ?_
                          refine tri_ret ?_
                          refine fin_then_ret ?_
                          refine fin_block_ret ?_
                          refine fin_then_ret ?_
                          refine fin_block_ret ?_
                          refine fin_then_ret ?_
                          refine fin_block_ret ?_
                          refine fin_then_ret ?_
                          refine fin_then_ret ?_
                          refine fin_block_ret ?_
                          refine fin_then_ret ?_
                          refine fin_nil 6 (.ints []) (by kernel_rfl) (E' := [(6, .ints []), (7, .im (.val (.slice none 0 0))), (8, .int 0), (9, .int 2)]) (by kernel_rfl) ?_
                          refine fin_nil 7 (.intss []) (by kernel_rfl) (E' := [(6, .ints []), (7, .intss []), (8, .int 0), (9, .int 2)]) (by kernel_rfl) ?_
                          exact fin_ret hcx (avs := [.ints [], .intss [], .int 0, .int 2]) (by kernel_rfl) (congrArg AV.tup (consE (congrArg AV.ints (show [] = (sumBits (sumP coef l next)) from (by rw [hR]; rfl))) (consE (congrArg AV.intss (show [] = (sumCs (sumP coef l next)) from (by rw [hR]; rfl))) (consE (congrArg AV.int (show 0 = (sumNx (sumP coef l next)) from (by rw [hR]; rfl))) (consE (congrArg AV.int (show 2 = (sumErr (sumP coef l next)) from (by rw [hR]; rfl))) rfl))))) [] rfl
                        · skip
                          have h9 := of_decide_eq_false hb9
                          have hSN := hSI.adder hsk hl2 (by omega)
                          refine tri_skip ?_
                          refine fin_then ?_
                          refine tri_seq ?_
                          refine tri_regD hcx [(1003, .to 10), (11, .to 11), (681, .to 681)] [] [18, 19, 17, 11, 14, 15] [12] [(0 ≤ (kk : Int) ∧ (kk : Int) ≤ 1000000 ∧ ((psL si).set kk ([] ++ ((((psL si).getD kk []).take (((psL si).getD kk []).length)).drop ((min 3 (((psL si).getD kk []).length : Int)).toNat)))).length ≤ 1000000 ∧ ∀ r ∈ ((psL si).set kk ([] ++ ((((psL si).getD kk []).take (((psL si).getD kk []).length)).drop ((min 3 (((psL si).getD kk []).length : Int)).toNat)))), r.length ≤ 1000000)] [] [(10, .row 22 (.intss (putR ((psL si).set kk ([] ++ ((((psL si).getD kk []).take (((psL si).getD kk []).length)).drop ((min 3 (((psL si).getD kk []).length : Int)).toNat)))) (kk : Int).toNat si.nx))), (11, .row 22 (.intss si.cs)), (681, .box [.row 10, .row 11, .int (si.nx + 2)])] (by kernel_rfl) ?_ ?_
                          · refine (ap ?_ az)
                            rw [psL_get hsk, drop_min]; exact ⟨by omega, by omega, hrw.1⟩
                          refine fin_then ?_
                          refine tri_seq ?_
                          refine tri_regD hcx [(1004, .to 10), (11, .to 11), (681, .to 681)] [] [18, 19, 17, 11, 14, 15] [12] [Fit ((kk : Int) + 1), (0 ≤ ((kk : Int) + 1) ∧ ((kk : Int) + 1) ≤ 1000000 ∧ (putR ((psL si).set kk ([] ++ ((((psL si).getD kk []).take (((psL si).getD kk []).length)).drop ((min 3 (((psL si).getD kk []).length : Int)).toNat)))) (kk : Int).toNat si.nx).length ≤ 1000000 ∧ ∀ r ∈ (putR ((psL si).set kk ([] ++ ((((psL si).getD kk []).take (((psL si).getD kk []).length)).drop ((min 3 (((psL si).getD kk []).length : Int)).toNat)))) (kk : Int).toNat si.nx), r.length ≤ 1000000)] [] [(10, .row 22 (.intss (putR (putR ((psL si).set kk ([] ++ ((((psL si).getD kk []).take (((psL si).getD kk []).length)).drop ((min 3 (((psL si).getD kk []).length : Int)).toNat)))) (kk : Int).toNat si.nx) ((kk : Int) + 1).toNat (si.nx + 1)))), (11, .row 22 (.intss si.cs)), (681, .box [.row 10, .row 11, .int (si.nx + 2)])] (by kernel_rfl) ?_ ?_
                          · refine (ap ?_ (ap (by rw [psL_get hsk, drop_min]; exact ⟨by omega, by omega, hrw.2⟩) az))
                            first | omega | exact id | exact vcNot | exact vcG | exact vcH | (intro _; omega) | exact (fun _ h => h) | (intro h; simp at h; omega) | (simp only [List.length_cons, List.length_nil, List.length_append, List.length_map, List.length_set, List.length_replicate]; omega) | (intro h; simp [h]; done) | (simp only [psL_get hsk, psL_len, List.length_cons, List.length_nil, List.length_append, List.length_take, List.length_drop]; omega) | exact ⟨by omega, by omega⟩
                          refine fin_then ?_
                          refine tri_regD hcx [(10, .to 10), (1004, .to 11), (681, .to 681)] [] [11, 14, 15] [12] [((([] ++ ((((psL si).getD kk []).take ((min 3 (((psL si).getD kk []).length : Int)).toNat)).drop 0)).length = 2 ∨ ([] ++ ((((psL si).getD kk []).take ((min 3 (((psL si).getD kk []).length : Int)).toNat)).drop 0)).length = 3) ∧ (∀ x ∈ ([] ++ ((((psL si).getD kk []).take ((min 3 (((psL si).getD kk []).length : Int)).toNat)).drop 0)), -100000 ≤ x ∧ x ≤ 100000) ∧ -100000 ≤ si.nx ∧ si.nx ≤ 100000 ∧ -100000 ≤ (si.nx + 1) ∧ (si.nx + 1) ≤ 100000 ∧ si.cs.length ≤ 100000000)] [] [(10, .row 22 (.intss (putR (putR ((psL si).set kk ([] ++ ((((psL si).getD kk []).take (((psL si).getD kk []).length)).drop ((min 3 (((psL si).getD kk []).length : Int)).toNat)))) (kk : Int).toNat si.nx) ((kk : Int) + 1).toNat (si.nx + 1)))), (11, .row 22 (.intss (si.cs ++ addC ([] ++ ((((psL si).getD kk []).take ((min 3 (((psL si).getD kk []).length : Int)).toNat)).drop 0)) si.nx (si.nx + 1)))), (681, .box [.row 10, .row 11, .int (si.nx + 2)])] (by kernel_rfl) ?_ ?_
                          · refine (ap ?_ az)
                            rw [psL_get hsk, take_min]; exact ⟨hsm.1, hsm.2, by omega, by omega, by omega, by omega, by omega⟩
                          refine fin_block ?_
                          refine fin_ren (ρ := [(10, .to 10), (11, .to 11), (12, .to 12), (681, .to 681)]) (keys := [11, 14, 15]) (E' := [(11, .loc 681 0), (14, .row 12), (15, .int (kk : Int))]) (H' := [(10, .row 22 (.intss (putR (putR ((psL si).set kk ([] ++ ((((psL si).getD kk []).take (((psL si).getD kk []).length)).drop ((min 3 (((psL si).getD kk []).length : Int)).toNat)))) (kk : Int).toNat si.nx) ((kk : Int) + 1).toNat (si.nx + 1)))), (11, .row 22 (.intss (si.cs ++ addC ([] ++ ((((psL si).getD kk []).take ((min 3 (((psL si).getD kk []).length : Int)).toNat)).drop 0)) si.nx (si.nx + 1)))), (12, .row 3 (.ints ob)), (681, .box [.row 10, .row 11, .int (si.nx + 2)])]) (by kernel_rfl) ?_
                          refine fin_round ((fi - 1), (stepP (kk : Int) si)) ?_ ?_ ?_ ?_
                          · show (fi - 1) ≤ fu ∧ RS coef l next (fi - 1) kk (stepP (kk : Int) si) ob ∧ (kk : Int) < (stepP (kk : Int) si).top
                            exact ⟨by omega, hSN.1, hSN.2⟩
                          · show (fi - 1) < fi
                            have := hSI.fuel; obtain ⟨f9, hf9⟩ := this; omega
                          · exact subE_mk (l := [.loc 681 0, .row 12, .int (kk : Int)]) (m := [.loc 681 0, .row 12, .int (kk : Int)]) (by kernel_rfl) (by kernel_rfl) rfl
                          · exact Eq.trans (show _ = [(10, .row 22 (.intss (putR (putR ((psL si).set kk ([] ++ ((((psL si).getD kk []).take (((psL si).getD kk []).length)).drop ((min 3 (((psL si).getD kk []).length : Int)).toNat)))) (kk : Int).toNat si.nx) ((kk : Int) + 1).toNat (si.nx + 1)))), (11, .row 22 (.intss (si.cs ++ addC ([] ++ ((((psL si).getD kk []).take ((min 3 (((psL si).getD kk []).length : Int)).toNat)).drop 0)) si.nx (si.nx + 1)))), (12, .row 3 (.ints ob)), (681, .box [.row 10, .row 11, .int (si.nx + 2)])] from by kernel_rfl) (consH (congrArg (fun x => ((10 : Nat), x)) (congrArg (fun x => AObj.row 22 (.intss x)) (show (putR (putR ((psL si).set kk ([] ++ ((((psL si).getD kk []).take (((psL si).getD kk []).length)).drop ((min 3 (((psL si).getD kk []).length : Int)).toNat)))) (kk : Int).toNat si.nx) ((kk : Int) + 1).toNat (si.nx + 1)) = (psL (stepP (kk : Int) si)) from (by rw [psL_get hsk, drop_min]; exact psL_step hSI.2.2.2.2.2 hsk)))) (consH (congrArg (fun x => ((11 : Nat), x)) (congrArg (fun x => AObj.row 22 (.intss x)) (show (si.cs ++ addC ([] ++ ((((psL si).getD kk []).take ((min 3 (((psL si).getD kk []).length : Int)).toNat)).drop 0)) si.nx (si.nx + 1)) = (stepP (kk : Int) si).cs from (by rw [psL_get hsk, take_min]; rfl)))) (consH rfl (consH (congrArg (fun x => ((681 : Nat), x)) (congrArg AObj.box (consE rfl (consE rfl (consE (congrArg AV.int (show (si.nx + 2) = (stepP (kk : Int) si).nx from (by rfl))) rfl))))) rfl))))
                      · skip
                        have h8 := of_decide_eq_false hb8
                        rw [psL_get hsk] at h8
                        have hl2 : ¬ 1 < (si.rows kk).length := by omega
                        refine tri_exit ?_
                        refine fin_then_exit ?_
                        refine fin_then_exit ?_
                        refine fin_block_same ?_
                        refine fin_then ?_
                        refine tri_seq ?_
                        refine tri_regD hcx [] [20] [11, 14, 15] [10, 11, 12, 681] [] [(20, .int 0)] [] (by kernel_rfl) ?_ ?_
                        · exact az
                        refine fin_then ?_
                        refine tri_seq ?_
                        refine tri_seq ?_
                        refine tri_regD hcx [] [213] [20, 11, 14, 15] [10, 11, 12, 681] [((0 : Int) ≤ (kk : Int) ∧ (kk : Int) < ((psL si).length : Int)), (kk < (psL si).length)] [(213, .bool ((((psL si).getD kk []).length : Int) == 1))] [] (by kernel_rfl) ?_ ?_
                        · refine (ap ?_ (ap ?_ az))
                          all_goals
                            first | omega | exact id | exact vcNot | exact vcG | exact vcH | (intro _; omega) | exact (fun _ h => h) | (intro h; simp at h; omega) | (simp only [List.length_cons, List.length_nil, List.length_append, List.length_map, List.length_set, List.length_replicate]; omega) | (intro h; simp [h]; done) | (simp only [psL_get hsk, psL_len, List.length_cons, List.length_nil, List.length_append, List.length_take, List.length_drop]; omega) | exact ⟨by omega, by omega⟩
                        refine fin_then ?_
                        refine tri_cond (b := ((((psL si).getD kk []).length : Int) == 1)) (by kernel_rfl) (fun hb10 => ?_) (fun hb10 => ?_)
                        · skip
                          have h10 := eq_of_beq hb10
                          rw [psL_get hsk] at h10
                          refine tri_regD hcx [] [20] [11, 14, 15] [10, 11, 12, 681] [((0 : Int) ≤ (kk : Int) ∧ (kk : Int) < ((psL si).length : Int)), (kk < (psL si).length), ((0 : Int) ≤ 0 ∧ 0 < (((psL si).getD kk []).length : Int))] [(20, .int (((psL si).getD kk []).getD 0 0))] [] (by kernel_rfl) ?_ ?_
                          · refine (ap ?_ (ap ?_ (ap ?_ az)))
                            all_goals
                              first | omega | exact id | exact vcNot | exact vcG | exact vcH | (intro _; omega) | exact (fun _ h => h) | (intro h; simp at h; omega) | (simp only [List.length_cons, List.length_nil, List.length_append, List.length_map, List.length_set, List.length_replicate]; omega) | (intro h; simp [h]; done) | (simp only [psL_get hsk, psL_len, List.length_cons, List.length_nil, List.length_append, List.length_take, List.length_drop]; omega) | exact ⟨by omega, by omega⟩
                          refine fin_then ?_
                          refine tri_regD hcx [(1003, .to 12)] [14] [11, 15] [10, 11, 681] [((ob.length + [(((psL si).getD kk []).getD 0 0)].length) * 8 ≤ 140737488355328)] [(14, .row 12)] [(12, .row 3 (.ints (ob ++ [(((psL si).getD kk []).getD 0 0)])))] (by kernel_rfl) ?_ ?_
                          · refine (ap ?_ az)
                            first | omega | exact id | exact vcNot | exact vcG | exact vcH | (intro _; omega) | exact (fun _ h => h) | (intro h; simp at h; omega) | (simp only [List.length_cons, List.length_nil, List.length_append, List.length_map, List.length_set, List.length_replicate]; omega) | (intro h; simp [h]; done) | (simp only [psL_get hsk, psL_len, List.length_cons, List.length_nil, List.length_append, List.length_take, List.length_drop]; omega) | exact ⟨by omega, by omega⟩
                          refine fin_block ?_
                          refine fin_then ?_
                          refine tri_regD hcx [] [15] [14, 11] [12, 10, 11, 681] [Fit ((kk : Int) + 1)] [(15, .int ((kk : Int) + 1))] [] (by kernel_rfl) ?_ ?_
                          · refine (ap ?_ az)
                            first | omega | exact id | exact vcNot | exact vcG | exact vcH | (intro _; omega) | exact (fun _ h => h) | (intro h; simp at h; omega) | (simp only [List.length_cons, List.length_nil, List.length_append, List.length_map, List.length_set, List.length_replicate]; omega) | (intro h; simp [h]; done) | (simp only [psL_get hsk, psL_len, List.length_cons, List.length_nil, List.length_append, List.length_take, List.length_drop]; omega) | exact ⟨by omega, by omega⟩
                          refine fin_ren (ρ := [(10, .to 10), (11, .to 11), (12, .to 12), (681, .to 681)]) (keys := [11, 14, 15]) (E' := [(11, .loc 681 0), (14, .row 12), (15, .int ((kk : Int) + 1))]) (H' := [(10, .row 22 (.intss (psL si))), (11, .row 22 (.intss si.cs)), (12, .row 3 (.ints (ob ++ [(((psL si).getD kk []).getD 0 0)]))), (681, .box [.row 10, .row 11, .int si.nx])]) (by kernel_rfl) ?_
                          refine fin_round ((fi - 1), (kk + 1), si, (ob ++ [(si.rows kk).headD 0])) ?_ ?_ ?_ ?_
                          · show RS coef l next (fi - 1) (kk + 1) si (ob ++ [(si.rows kk).headD 0])
                            exact hSI.next hsk hl2
                          · show (fi - 1) < fu
                            have := hSI.fuel; obtain ⟨f9, hf9⟩ := this; omega
                          · exact subE_mk (l := [.loc 681 0, .row 12, .int ((kk : Int) + 1)]) (m := [.loc 681 0, .row 12, .int ((kk + 1) : Int)]) (by kernel_rfl) (by kernel_rfl) (consE rfl (consE rfl (consE (congrArg AV.int (show ((kk : Int) + 1) = ((kk + 1) : Int) from (by first | rfl | omega | (simp; done)))) rfl)))
                          · exact Eq.trans (show _ = [(10, .row 22 (.intss (psL si))), (11, .row 22 (.intss si.cs)), (12, .row 3 (.ints (ob ++ [(((psL si).getD kk []).getD 0 0)]))), (681, .box [.row 10, .row 11, .int si.nx])] from by kernel_rfl) (consH rfl (consH rfl (consH (congrArg (fun x => ((12 : Nat), x)) (congrArg (fun x => AObj.row 3 (.ints x)) (show (ob ++ [(((psL si).getD kk []).getD 0 0)]) = (ob ++ [(si.rows kk).headD 0]) from (by first | (rw [psL_get hsk]; exact hd1 (by omega)) | exact hd0 hl2 (by omega))))) (consH rfl rfl))))
                        · skip
                          have h10 := neB hb10
                          rw [psL_get hsk] at h10
                          refine tri_skip ?_
                          refine fin_then ?_
                          refine tri_regD hcx [(1003, .to 12)] [14] [11, 15] [10, 11, 681] [((ob.length + [0].length) * 8 ≤ 140737488355328)] [(14, .row 12)] [(12, .row 3 (.ints (ob ++ [0])))] (by kernel_rfl) ?_ ?_
                          · refine (ap ?_ az)
                            first | omega | exact id | exact vcNot | exact vcG | exact vcH | (intro _; omega) | exact (fun _ h => h) | (intro h; simp at h; omega) | (simp only [List.length_cons, List.length_nil, List.length_append, List.length_map, List.length_set, List.length_replicate]; omega) | (intro h; simp [h]; done) | (simp only [psL_get hsk, psL_len, List.length_cons, List.length_nil, List.length_append, List.length_take, List.length_drop]; omega) | exact ⟨by omega, by omega⟩
                          refine fin_block ?_
                          refine fin_then ?_
                          refine tri_regD hcx [] [15] [14, 11] [12, 10, 11, 681] [Fit ((kk : Int) + 1)] [(15, .int ((kk : Int) + 1))] [] (by kernel_rfl) ?_ ?_
                          · refine (ap ?_ az)
                            first | omega | exact id | exact vcNot | exact vcG | exact vcH | (intro _; omega) | exact (fun _ h => h) | (intro h; simp at h; omega) | (simp only [List.length_cons, List.length_nil, List.length_append, List.length_map, List.length_set, List.length_replicate]; omega) | (intro h; simp [h]; done) | (simp only [psL_get hsk, psL_len, List.length_cons, List.length_nil, List.length_append, List.length_take, List.length_drop]; omega) | exact ⟨by omega, by omega⟩
                          refine fin_ren (ρ := [(10, .to 10), (11, .to 11), (12, .to 12), (681, .to 681)]) (keys := [11, 14, 15]) (E' := [(11, .loc 681 0), (14, .row 12), (15, .int ((kk : Int) + 1))]) (H' := [(10, .row 22 (.intss (psL si))), (11, .row 22 (.intss si.cs)), (12, .row 3 (.ints (ob ++ [0]))), (681, .box [.row 10, .row 11, .int si.nx])]) (by kernel_rfl) ?_
                          refine fin_round ((fi - 1), (kk + 1), si, (ob ++ [(si.rows kk).headD 0])) ?_ ?_ ?_ ?_
                          · show RS coef l next (fi - 1) (kk + 1) si (ob ++ [(si.rows kk).headD 0])
                            exact hSI.next hsk hl2
                          · show (fi - 1) < fu
                            have := hSI.fuel; obtain ⟨f9, hf9⟩ := this; omega
                          · exact subE_mk (l := [.loc 681 0, .row 12, .int ((kk : Int) + 1)]) (m := [.loc 681 0, .row 12, .int ((kk + 1) : Int)]) (by kernel_rfl) (by kernel_rfl) (consE rfl (consE rfl (consE (congrArg AV.int (show ((kk : Int) + 1) = ((kk + 1) : Int) from (by first | rfl | omega | (simp; done)))) rfl)))
                          · exact Eq.trans (show _ = [(10, .row 22 (.intss (psL si))), (11, .row 22 (.intss si.cs)), (12, .row 3 (.ints (ob ++ [0]))), (681, .box [.row 10, .row 11, .int si.nx])] from by kernel_rfl) (consH rfl (consH rfl (consH (congrArg (fun x => ((12 : Nat), x)) (congrArg (fun x => AObj.row 3 (.ints x)) (show (ob ++ [0]) = (ob ++ [(si.rows kk).headD 0]) from (by first | (rw [psL_get hsk]; exact hd1 (by omega)) | exact hd0 hl2 (by omega))))) (consH rfl rfl))))
                  · skip
                    have h7 := of_decide_eq_false hb7
                    rw [psL_len] at h7
                    have hkt : ¬ (kk : Int) < st.top := by have := hRS.2.2.1.top0; omega
                    have hR := hRS.done hkt hgo hall (by omega)
                    refine tri_exit ?_
                    refine fin_then_exit ?_
                    refine fin_then_exit ?_
                    refine fin_block_same ?_
                    refine fin_then ?_
                    refine tri_seq ?_
                    refine tri_drawD [0, 0, 2, 6, 14, 0, 32, 96, 224, 1, 543, 2047, 4095] hcx hmx [] [6, 7, 8, 9] [] [11, 12] [] [(6, .row 12), (7, .row 11), (8, .int st.nx), (9, .int 0)] [] (by kernel_rfl) ?_ ?_
                    · exact az
                    refine fin_then ?_
                    refine tri_ret ?_
                    refine fin_ren (ρ := [(11, .frz), (12, .frz)]) (keys := [6, 7, 8, 9]) (E' := [(6, .ints ob), (7, .intss st.cs), (8, .int st.nx), (9, .int 0)]) (H' := []) (by kernel_rfl) ?_
                    exact fin_ret hcx (avs := [.ints ob, .intss st.cs, .int st.nx, .int 0]) (by kernel_rfl) (congrArg AV.tup (consE (congrArg AV.ints (show ob = (sumBits (sumP coef l next)) from (by rw [hR]; rfl))) (consE (congrArg AV.intss (show st.cs = (sumCs (sumP coef l next)) from (by rw [hR]; rfl))) (consE (congrArg AV.int (show st.nx = (sumNx (sumP coef l next)) from (by rw [hR]; rfl))) (consE (congrArg AV.int (show 0 = (sumErr (sumP coef l next)) from (by rw [hR]; rfl))) rfl))))) [] rfl
  · cases hσ
end Go.Proofs.YtogolfneckhnaaaDoor.En
