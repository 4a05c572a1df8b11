/- The reference's Text, Put, words, number, numbers and Get, in the reader's words. -/
import Derived.Test.YtiokflebeojokaaGreatDoorCnf14S
import Derived.Test.YtiokflebeojokaaGreatDoorEngRec
import Derived.Test.YtiokflebeojokaaGreatDoorSpecP
namespace Go.Proofs.YtiokflebeojokaaGreatDoor.En
open Go Go.RowKit
set_option linter.unusedVariables false
set_option linter.unusedSimpArgs false
set_option linter.unnecessarySimpa false
attribute [local irreducible] Cn.getV Cn.wordsV Cn.putB Cn.chkV Cn.spF Cn.wS Cn.rN Cn.nmV Cn.nmB Cn.numsW
def tySp14 : List (Nat × TD) := [(3, ⟨1, false, [.int .i64 0], [], none, 8, false, 1, 1⟩),
  (5, ⟨1, false, [.int .u8 0], [], none, 1, false, 2, 8⟩),
  (9, ⟨1, false, [.string ⟨#[]⟩], [], none, 16, false, 9, 9⟩),
  (22, ⟨1, false, [.slice none 0 0], [], some 25, 24, false, 0, 0⟩),
  (24, ⟨2, true, [.int .i64 0, .slice none 0 0], [(0, 3), (1, 22)], none, 32, false, 0, 6⟩),
  (25, ⟨1, false, [.slice none 0 0], [], some 3, 24, false, 0, 3⟩),
  (32, ⟨1, false, [.int .i64 0], [], none, 8, false, 1, 1⟩),
  (41, ⟨1, false, [.slice none 0 0], [], some 5, 24, false, 0, 0⟩),
  (90, ⟨1, false, [.slice none 0 0], [], some 9, 24, false, 0, 0⟩)]
theorem tySp14_ok : AllTy Tryz.prog tySp14 := ⟨⟨by kernel_rfl, by kernel_rfl⟩, ⟨by kernel_rfl, by kernel_rfl⟩, ⟨by kernel_rfl, by kernel_rfl⟩, ⟨by kernel_rfl, by kernel_rfl⟩, ⟨by kernel_rfl, by kernel_rfl⟩, ⟨by kernel_rfl, by kernel_rfl⟩, ⟨by kernel_rfl, by kernel_rfl⟩, ⟨by kernel_rfl, by kernel_rfl⟩, ⟨by kernel_rfl, by kernel_rfl⟩, trivial⟩
def rText_σ (nn : Nat) : CtF
  | [.im (.val (.int .i64 n))], [] => some (-1000000000 ≤ n ∧ n ≤ 1000000000 ∧ Cn.txM n < nn, .im (.val (.string (strOfNums (Cn.itoaI n)))), [])
  | _, _ => none
def cx_rText (nn : Nat) : Cx := ⟨tySp14, [(18, (coeF [.agg [.id, .ld (.intss [])]] rCheck_σ)), (67, (rText_σ nn))], true⟩
theorem cx_rText_ok (nn : Nat) (hR : Sound Tryz.prog 67 (rText_σ nn)) : CxOk Tryz.prog (cx_rText nn) := cx_ok tySp14_ok ⟨(rCheck_sound.coe [.agg [.id, .ld (.intss [])]] rfl), hR, trivial⟩
theorem rText_step (nn : Nat) (hR : Sound Tryz.prog 67 (rText_σ nn)) : Sound Tryz.prog 67 (rText_σ (nn + 1)) := by
 refine sound_mk (cx := (cx_rText nn)) (fn := Tryz.f67) Tryz.func67 (by kernel_rfl) rfl ?_
 intro w0 G0 args os p r outs hσ hp hm0 hd0
 have hcx : CxOk Tryz.prog (cx_rText nn) := cx_rText_ok nn hR
 unfold rText_σ at hσ
 split at hσ
 ·
  rename_i n
  simp only [Option.some.injEq, Prod.mk.injEq] at hσ
  obtain ⟨rfl, rfl, rfl⟩ := hσ
  obtain ⟨wW, wO, wm, wβ, wd⟩ := w0
  replace hm0 : wm = 0 := hm0
  subst hm0
  replace hd0 : wd = [] := hd0
  subst hd0
  refine ⟨by kernel_rfl, ?_⟩
  change Tri ⟨_, _, _, _, _, _⟩ [(0, .int n)] [] _ _
  obtain ⟨hm1, hm2, hsz⟩ := hp
  refine tri_seq ?_
  refine tri_regD hcx [] [] [0] [] [] [] [] (by kernel_rfl) ?_ ?_
  ·
   exact az
  refine fin_then ?_
  refine tri_seq ?_
  refine tri_seq ?_
  refine tri_regD hcx [] [5] [0] [] [] [(5, .bool (decide (n < 0)))] [] (by kernel_rfl) ?_ ?_
  ·
   exact az
  refine fin_then ?_
  refine tri_cond (b := (decide (n < 0))) (by kernel_rfl) (fun hb0 => ?_) (fun hb0 => ?_)
  ·
   skip
   have h0 := of_decide_eq_true hb0
   have hn : n < 0 := h0
   have ht := Cn.txM_neg hn
   have hl := Cn.txt_len (n := 0 - n) (by omega) (by omega)
   refine tri_seq ?_
   refine tri_regD hcx [] [2] [] [] [Fit (0 - n), (-1000000000 ≤ (0 - n) ∧ (0 - n) ≤ 1000000000 ∧ Cn.txM (0 - n) < nn), ((⟨#[45]⟩ : ByteArray).size + (strOfNums (Cn.itoaI (0 - n))).size ≤ maxLen)] [(2, .im (.val (.string ((⟨#[45]⟩ : ByteArray) ++ (strOfNums (Cn.itoaI (0 - n)))))))] [] (by kernel_rfl) ?_ ?_
   ·
    refine (ap ?_ (ap ?_ (ap ?_ az)))
    all_goals
     first | omega | (show 1 + _ ≤ _; unfold maxLen; omega)
   refine fin_then ?_
   refine tri_ret ?_
   refine fin_then_ret ?_
   exact fin_ret [] rfl rfl trivial hcx (avs := [.im (.val (.string ((⟨#[45]⟩ : ByteArray) ++ (strOfNums (Cn.itoaI (0 - n))))))]) (by kernel_rfl) (congrArg (fun x => AV.im (.val (.string x))) (show ((⟨#[45]⟩ : ByteArray) ++ (strOfNums (Cn.itoaI (0 - n)))) = (strOfNums (Cn.itoaI n)) from (by first | exact Cn.txt_neg hn | exact Cn.txt_one hn hk | exact Cn.txt_more hn hk | done))) [] rfl
  ·
   skip
   have h0 := of_decide_eq_false hb0
   have hn : ¬ n < 0 := by omega
   have htd := Cn.tdiv10 (n := n) (by omega)
   refine tri_skip ?_
   refine fin_then ?_
   refine tri_seq ?_
   refine tri_regD hcx [] [3] [0] [] [((10 : Int) ≠ 0), Fit (48 + (n.tmod 10)), inK .u8 (48 + (n.tmod 10))] [(3, .im (.val (.string (strOfNums [(48 + (n.tmod 10))]))))] [] (by kernel_rfl) ?_ ?_
   ·
    refine (ap ?_ (ap ?_ (ap ?_ az)))
    all_goals
     first | omega | (unfold inK; omega)
   refine fin_then ?_
   refine tri_seq ?_
   refine tri_seq ?_
   refine tri_regD hcx [] [17] [3, 0] [] [] [(17, .bool (decide (n < 10)))] [] (by kernel_rfl) ?_ ?_
   ·
    exact az
   refine fin_then ?_
   refine tri_cond (b := (decide (n < 10))) (by kernel_rfl) (fun hb1 => ?_) (fun hb1 => ?_)
   ·
    skip
    have h1 := of_decide_eq_true hb1
    have hk : n < 10 := h1
    refine tri_seq ?_
    refine tri_regD hcx [] [2] [] [] [] [(2, .im (.val (.string (strOfNums [(48 + (n.tmod 10))]))))] [] (by kernel_rfl) ?_ ?_
    ·
     exact az
    refine fin_then ?_
    refine tri_ret ?_
    refine fin_then_ret ?_
    exact fin_ret [] rfl rfl trivial hcx (avs := [.im (.val (.string (strOfNums [(48 + (n.tmod 10))])))]) (by kernel_rfl) (congrArg (fun x => AV.im (.val (.string x))) (show (strOfNums [(48 + (n.tmod 10))]) = (strOfNums (Cn.itoaI n)) from (by first | exact Cn.txt_neg hn | exact Cn.txt_one hn hk | exact Cn.txt_more hn hk | done))) [] rfl
   ·
    skip
    have h1 := of_decide_eq_false hb1
    have hk : ¬ n < 10 := by omega
    have ht := Cn.txM_div hn hk
    have hl := Cn.txt_len (n := n.tdiv 10) (by omega) (by omega)
    have hl2 := Cn.str_size [48 + n.tmod 10]
    refine tri_skip ?_
    refine fin_then ?_
    refine tri_seq ?_
    refine tri_regD hcx [] [2] [] [] [((10 : Int) ≠ 0 ∧ Fit (n.tdiv 10)), (-1000000000 ≤ (n.tdiv 10) ∧ (n.tdiv 10) ≤ 1000000000 ∧ Cn.txM (n.tdiv 10) < nn), ((strOfNums (Cn.itoaI (n.tdiv 10))).size + (strOfNums [(48 + (n.tmod 10))]).size ≤ maxLen)] [(2, .im (.val (.string ((strOfNums (Cn.itoaI (n.tdiv 10))) ++ (strOfNums [(48 + (n.tmod 10))])))))] [] (by kernel_rfl) ?_ ?_
    ·
     refine (ap ?_ (ap ?_ (ap ?_ az)))
     all_goals
      first | omega | (rw [hl2]; simp only [List.length_cons, List.length_nil]; unfold maxLen; omega)
    refine fin_then ?_
    refine tri_ret ?_
    exact fin_ret [] rfl rfl trivial hcx (avs := [.im (.val (.string ((strOfNums (Cn.itoaI (n.tdiv 10))) ++ (strOfNums [(48 + (n.tmod 10))]))))]) (by kernel_rfl) (congrArg (fun x => AV.im (.val (.string x))) (show ((strOfNums (Cn.itoaI (n.tdiv 10))) ++ (strOfNums [(48 + (n.tmod 10))])) = (strOfNums (Cn.itoaI n)) from (by first | exact Cn.txt_neg hn | exact Cn.txt_one hn hk | exact Cn.txt_more hn hk | done))) [] rfl
 ·
  cases hσ
theorem rText_all : ∀ nn, Sound Tryz.prog 67 (rText_σ nn) := sound_rec (sound_none (fn := Tryz.f67) Tryz.func67 (by kernel_rfl) rfl (fun args os p r outs hσ hp => by
  unfold rText_σ at hσ
  split at hσ
  · simp only [Option.some.injEq, Prod.mk.injEq] at hσ
    obtain ⟨rfl, rfl, rfl⟩ := hσ
    exact absurd hp.2.2 (Nat.not_lt_zero _)
  · cases hσ)) rText_step
def rText_τ : CtF
  | [.im (.val (.int .i64 n))], [] => some (-1000000000 ≤ n ∧ n ≤ 1000000000, .im (.val (.string (strOfNums (Cn.itoaI n)))), [])
  | _, _ => none
theorem rText_sound : Sound Tryz.prog 67 rText_τ := sound_all rText_all (fun args os p r outs hσ hp => by
  unfold rText_τ at hσ
  split at hσ
  · rename_i n
    simp only [Option.some.injEq, Prod.mk.injEq] at hσ
    obtain ⟨rfl, rfl, rfl⟩ := hσ
    exact ⟨Cn.txM n + 1, _, rfl, ⟨hp.1, hp.2, Nat.lt_succ_self _⟩⟩
  · cases hσ)
def cx_rPut : Cx := ⟨tySp14, [(18, (coeF [.agg [.id, .ld (.intss [])]] rCheck_σ)), (67, rText_τ)], true⟩
theorem cx_rPut_ok : CxOk Tryz.prog cx_rPut := cx_ok tySp14_ok ⟨(rCheck_sound.coe [.agg [.id, .ld (.intss [])]] rfl), rText_sound, trivial⟩
def rPut_σ : CtF
  | [.agg [.im (.val (.int .i64 N)), .im (.ls (.intss L))]], [] => some (L.length ≤ 1000000 ∧ (∀ l ∈ L, l.length ≤ 1000000000) ∧ Cn.sizeL L ≤ 1000000000, .tup [.bytes (if Cn.chkV N L = 0 then Cn.putB N L else []), .int (Cn.chkV N L)], [])
  | _, _ => none
theorem rPut_sound : Sound Tryz.prog 30 rPut_σ := by
 refine sound_mk (cx := cx_rPut) (fn := Tryz.f30) Tryz.func30 (by kernel_rfl) rfl ?_
 intro w0 G0 args os p r outs hσ hp hm0 hd0
 have hcx : CxOk Tryz.prog cx_rPut := cx_rPut_ok
 have hmx : Tryz.prog.follows .mixedOrders = true := by kernel_rfl
 unfold rPut_σ at hσ
 split at hσ
 ·
  rename_i N L
  simp only [Option.some.injEq, Prod.mk.injEq] at hσ
  obtain ⟨rfl, rfl, rfl⟩ := hσ
  obtain ⟨wW, wO, wm, wβ, wd⟩ := w0
  replace hm0 : wm = 0 := hm0
  subst hm0
  replace hd0 : wd = [] := hd0
  subst hd0
  refine ⟨by kernel_rfl, ?_⟩
  change Tri ⟨_, _, _, _, _, _⟩ [(0, .agg [.int N, .intss L])] [] _ _
  obtain ⟨hm1, hm2, hm3⟩ := hp
  refine tri_seq ?_
  refine tri_regD hcx [(1000, .frz)] [1] [] [] [] [(1, .pto [.int N, .ls (.intss L)])] [] (by kernel_rfl) ?_ ?_
  ·
   exact az
  refine fin_then ?_
  refine tri_seq ?_
  refine tri_regD hcx [] [4] [1] [] [(L.length ≤ maxLen ∧ ∀ l ∈ L, l.length ≤ maxLen)] [(4, .int (Cn.chkV N L))] [] (by kernel_rfl) ?_ ?_
  ·
   refine (ap ?_ az)
   exact ⟨by unfold maxLen; omega, fun l hl => by have := hm2 l hl; unfold maxLen; omega⟩
  refine fin_then ?_
  refine tri_seq ?_
  refine tri_seq ?_
  refine tri_regD hcx [] [11] [4, 1] [] [] [(11, .bool ((Cn.chkV N L) != 0))] [] (by kernel_rfl) ?_ ?_
  ·
   exact az
  refine fin_then ?_
  refine tri_cond (b := ((Cn.chkV N L) != 0)) (by kernel_rfl) (fun hb0 => ?_) (fun hb0 => ?_)
  ·
   skip
   have h0 := hb0
   have hne : ¬ Cn.chkV N L = 0 := by simpa using h0
   refine tri_seq ?_
   refine tri_regD hcx [] [2, 3] [] [] [] [(2, .im (.val (.slice none 0 0))), (3, .int (Cn.chkV N L))] [] (by kernel_rfl) ?_ ?_
   ·
    exact az
   refine fin_then ?_
   refine tri_ret ?_
   refine fin_then_ret ?_
   refine fin_nil 2 (.bytes []) (by kernel_rfl) (E' := [(2, .bytes []), (3, .int (Cn.chkV N L))]) (by kernel_rfl) ?_
   exact fin_ret [] rfl rfl trivial hcx (avs := [.bytes [], .int (Cn.chkV N L)]) (by kernel_rfl) (congrArg AV.tup (consE (congrArg AV.bytes (show [] = (if Cn.chkV N L = 0 then Cn.putB N L else []) from (by first | (rw [if_neg hne]; done) | exact Cn.put_end (by omega) he | rfl | (rw [he]; rfl) | exact he.symm | done))) rfl)) [] rfl
  ·
   skip
   have h0 := hb0
   have he : Cn.chkV N L = 0 := by simpa using h0
   obtain ⟨hN0, hN1, hK, hbl⟩ := Cn.chk_lit he
   have hrg : ∀ l ∈ L, ∀ x ∈ l, -65536 ≤ x ∧ x ≤ 65536 := fun l hl x hx => by have := hbl l hl x hx; omega
   have hhl := Cn.head_len hN0 hN1 hK
   have hbd := fun j (hj : j ≤ L.length) => Cn.put_bd (N := N) (i := j) hrg hj
   have hs1 := Cn.txt_len (n := N) (by omega) (by omega)
   have hs2 := Cn.txt_len (n := (L.length : Int)) (by omega) (by omega)
   refine tri_skip ?_
   refine fin_then ?_
   refine tri_seq ?_
   refine tri_drawD [0, 1, 3, 7, 15, 0, 32, 96, 231, 511, 1023, 2047, 4095] hcx hmx [(1011, .to 224)] [5] [1] [] [(-1000000000 ≤ N ∧ N ≤ 1000000000), ((⟨#[112, 32, 99, 110, 102, 32]⟩ : ByteArray).size + (strOfNums (Cn.itoaI N)).size ≤ maxLen), (((⟨#[112, 32, 99, 110, 102, 32]⟩ : ByteArray) ++ (strOfNums (Cn.itoaI N))).size + (⟨#[32]⟩ : ByteArray).size ≤ maxLen), (-1000000000 ≤ (L.length : Int) ∧ (L.length : Int) ≤ 1000000000), ((((⟨#[112, 32, 99, 110, 102, 32]⟩ : ByteArray) ++ (strOfNums (Cn.itoaI N))) ++ (⟨#[32]⟩ : ByteArray)).size + (strOfNums (Cn.itoaI (L.length : Int))).size ≤ maxLen), (((((⟨#[112, 32, 99, 110, 102, 32]⟩ : ByteArray) ++ (strOfNums (Cn.itoaI N))) ++ (⟨#[32]⟩ : ByteArray)) ++ (strOfNums (Cn.itoaI (L.length : Int)))).size + (⟨#[10]⟩ : ByteArray).size ≤ maxLen), ((((((⟨#[112, 32, 99, 110, 102, 32]⟩ : ByteArray) ++ (strOfNums (Cn.itoaI N))) ++ (⟨#[32]⟩ : ByteArray)) ++ (strOfNums (Cn.itoaI (L.length : Int)))) ++ (⟨#[10]⟩ : ByteArray)).size ≤ maxLen)] [(5, .row 224)] [(224, .row 5 (.bytes (bytesI (((((⟨#[112, 32, 99, 110, 102, 32]⟩ : ByteArray) ++ (strOfNums (Cn.itoaI N))) ++ (⟨#[32]⟩ : ByteArray)) ++ (strOfNums (Cn.itoaI (L.length : Int)))) ++ (⟨#[10]⟩ : ByteArray)))))] (by kernel_rfl) ?_ ?_
   ·
    refine (ap ?_ (ap ?_ (ap ?_ (ap ?_ (ap ?_ (ap ?_ (ap ?_ az)))))))
    all_goals
     first | omega | (show 6 + _ ≤ _; unfold maxLen; omega) | (simp only [ByteArray.size_append]; exact Cn.put_sz hs1 hs2) | (simp only [ByteArray.size_append]; have h8 := Cn.put_sz hs1 hs2; omega)
   refine fin_then ?_
   refine tri_seq ?_
   refine tri_seq ?_
   refine tri_regD hcx [] [6] [5, 1] [224] [] [(6, .int 0)] [] (by kernel_rfl) ?_ ?_
   ·
    exact az
   refine fin_then ?_
   refine tri_block ?_
   refine tri_ren (ρ := [(224, .to 700)]) (keys := [1, 5, 6]) (E' := [(1, .pto [.int N, .ls (.intss L)]), (5, .row 700), (6, .int 0)]) (H' := [(700, .row 5 (.bytes (bytesI (((((⟨#[112, 32, 99, 110, 102, 32]⟩ : ByteArray) ++ (strOfNums (Cn.itoaI N))) ++ (⟨#[32]⟩ : ByteArray)) ++ (strOfNums (Cn.itoaI (L.length : Int)))) ++ (⟨#[10]⟩ : ByteArray)))))]) (by kernel_rfl) ?_
   refine tri_loop (X := Nat) (fun x0 => x0 ≤ L.length) (fun x0 => [(1, .pto [.int N, .ls (.intss L)]), (5, .row 700), (6, .int (x0 : Int))]) (fun x0 => [(700, .row 5 (.bytes (Cn.headB N L.length ++ 10 :: Cn.clsB (L.take x0))))]) (fun x0 => L.length - x0) (0) ?_ ?_ ?_ ?_
   ·
    show 0 ≤ L.length
    omega
   ·
    exact subE_mk (l := [.pto [.int N, .ls (.intss L)], .row 700, .int 0]) (m := [.pto [.int N, .ls (.intss L)], .row 700, .int (0 : Int)]) (by kernel_rfl) (by kernel_rfl) (consE rfl (consE rfl (consE (congrArg AV.int (show 0 = (0 : Int) from (by first | rfl | omega | (simp; done)))) rfl)))
   ·
    exact Eq.trans (show _ = [(700, .row 5 (.bytes (bytesI (((((⟨#[112, 32, 99, 110, 102, 32]⟩ : ByteArray) ++ (strOfNums (Cn.itoaI N))) ++ (⟨#[32]⟩ : ByteArray)) ++ (strOfNums (Cn.itoaI (L.length : Int)))) ++ (⟨#[10]⟩ : ByteArray)))))] from by kernel_rfl) (consH (congrArg (fun x => ((700 : Nat), x)) (congrArg (fun x => AObj.row 5 (.bytes x)) (show (bytesI (((((⟨#[112, 32, 99, 110, 102, 32]⟩ : ByteArray) ++ (strOfNums (Cn.itoaI N))) ++ (⟨#[32]⟩ : ByteArray)) ++ (strOfNums (Cn.itoaI (L.length : Int)))) ++ (⟨#[10]⟩ : ByteArray))) = (Cn.headB N L.length ++ 10 :: Cn.clsB (L.take 0)) from (by exact Cn.put_init N L.length)))) rfl)
   ·
    intro i hI
    replace hI : i ≤ L.length := hI
    change Tri _ [(1, .pto [.int N, .ls (.intss L)]), (5, .row 700), (6, .int (i : Int))] [(700, .row 5 (.bytes (Cn.headB N L.length ++ 10 :: Cn.clsB (L.take i))))] _ _
    have hbi := fun (hi : i < L.length) => Cn.put_in hrg hi
    have hbj := hbd i
    refine tri_seq ?_
    refine tri_seq ?_
    refine tri_regD hcx [] [29] [1, 5, 6] [700] [] [(29, .bool (decide ((i : Int) < (L.length : Int))))] [] (by kernel_rfl) ?_ ?_
    ·
     exact az
    refine fin_then ?_
    refine tri_cond (b := (decide ((i : Int) < (L.length : Int)))) (by kernel_rfl) (fun hb1 => ?_) (fun hb1 => ?_)
    ·
     skip
     have h1 := of_decide_eq_true hb1
     refine tri_skip ?_
     refine fin_then ?_
     refine tri_seq ?_
     refine tri_block ?_
     refine tri_seq ?_
     refine tri_seq ?_
     refine tri_regD hcx [] [7] [1, 5, 6] [700] [] [(7, .int 0)] [] (by kernel_rfl) ?_ ?_
     ·
      exact az
     refine fin_then ?_
     refine tri_block ?_
     refine tri_ren (ρ := [(700, .to 701)]) (keys := [1, 5, 6, 7]) (E' := [(1, .pto [.int N, .ls (.intss L)]), (5, .row 701), (6, .int (i : Int)), (7, .int 0)]) (H' := [(701, .row 5 (.bytes (Cn.headB N L.length ++ 10 :: Cn.clsB (L.take i))))]) (by kernel_rfl) ?_
     refine tri_loop (X := Nat) (fun x0 => x0 ≤ (L.getD i []).length) (fun x0 => [(1, .pto [.int N, .ls (.intss L)]), (5, .row 701), (6, .int (i : Int)), (7, .int (x0 : Int))]) (fun x0 => [(701, .row 5 (.bytes ((Cn.headB N L.length ++ 10 :: Cn.clsB (L.take i)) ++ Cn.litsB ((L.getD i []).take x0))))]) (fun x0 => (L.getD i []).length - x0) (0) ?_ ?_ ?_ ?_
     ·
      show 0 ≤ (L.getD i []).length
      omega
     ·
      exact subE_mk (l := [.pto [.int N, .ls (.intss L)], .row 701, .int (i : Int), .int 0]) (m := [.pto [.int N, .ls (.intss L)], .row 701, .int (i : Int), .int (0 : Int)]) (by kernel_rfl) (by kernel_rfl) (consE rfl (consE rfl (consE rfl (consE (congrArg AV.int (show 0 = (0 : Int) from (by first | rfl | omega | (simp; done)))) rfl))))
     ·
      exact Eq.trans (show _ = [(701, .row 5 (.bytes (Cn.headB N L.length ++ 10 :: Cn.clsB (L.take i))))] from by kernel_rfl) (consH (congrArg (fun x => ((701 : Nat), x)) (congrArg (fun x => AObj.row 5 (.bytes x)) (show (Cn.headB N L.length ++ 10 :: Cn.clsB (L.take i)) = (Cn.headB N L.length ++ 10 :: Cn.clsB (L.take i)) ++ Cn.litsB ((L.getD i []).take 0) from (by (rw [List.take_zero]; exact (List.append_nil _).symm))))) rfl)
     ·
      intro k hI
      replace hI : k ≤ (L.getD i []).length := hI
      change Tri _ [(1, .pto [.int N, .ls (.intss L)]), (5, .row 701), (6, .int (i : Int)), (7, .int (k : Int))] [(701, .row 5 (.bytes ((Cn.headB N L.length ++ 10 :: Cn.clsB (L.take i)) ++ Cn.litsB ((L.getD i []).take k))))] _ _
      obtain ⟨hq1, hq2, hq3⟩ := hbi (by omega)
      have hq4 := fun (hk : k < (L.getD i []).length) => hq3 k hk
      have hq5 := hq2 k
      refine tri_seq ?_
      refine tri_seq ?_
      refine tri_regD hcx [] [39] [1, 5, 6, 7] [701] [((0 : Int) ≤ (i : Int) ∧ (i : Int) < (L.length : Int))] [(39, .bool (decide ((k : Int) < ((L.getD i []).length : Int))))] [] (by kernel_rfl) ?_ ?_
      ·
       refine (ap ?_ az)
       omega
      refine fin_then ?_
      refine tri_cond (b := (decide ((k : Int) < ((L.getD i []).length : Int)))) (by kernel_rfl) (fun hb2 => ?_) (fun hb2 => ?_)
      ·
       skip
       have h2 := of_decide_eq_true hb2
       refine tri_skip ?_
       refine fin_then ?_
       refine tri_seq ?_
       refine tri_block ?_
       refine tri_seq ?_
       refine tri_regD hcx [(1010, .to 701)] [5] [1, 6, 7] [] [((0 : Int) ≤ (i : Int) ∧ (i : Int) < (L.length : Int)), ((0 : Int) ≤ (k : Int) ∧ (k : Int) < ((L.getD i []).length : Int)), (-1000000000 ≤ ((L.getD i []).getD k 0) ∧ ((L.getD i []).getD k 0) ≤ 1000000000), ((((Cn.headB N L.length ++ 10 :: Cn.clsB (L.take i)) ++ Cn.litsB ((L.getD i []).take k)).length + (strOfNums (Cn.itoaI ((L.getD i []).getD k 0))).size) * 1 ≤ 140737488355328)] [(5, .row 701)] [(701, .row 5 (.bytes (((Cn.headB N L.length ++ 10 :: Cn.clsB (L.take i)) ++ Cn.litsB ((L.getD i []).take k)) ++ (bytesI (strOfNums (Cn.itoaI ((L.getD i []).getD k 0)))))))] (by kernel_rfl) ?_ ?_
       ·
        refine (ap ?_ (ap ?_ (ap ?_ (ap ?_ az))))
        all_goals
         first | omega | (simp only [List.length_cons, List.length_nil, List.length_append, List.length_map, List.length_set, List.length_replicate]; omega)
       refine fin_then ?_
       refine tri_regD hcx [(1002, .to 701)] [5] [1, 6, 7] [] [(((((Cn.headB N L.length ++ 10 :: Cn.clsB (L.take i)) ++ Cn.litsB ((L.getD i []).take k)) ++ (bytesI (strOfNums (Cn.itoaI ((L.getD i []).getD k 0))))).length + [32].length) * 1 ≤ 140737488355328)] [(5, .row 701)] [(701, .row 5 (.bytes ((((Cn.headB N L.length ++ 10 :: Cn.clsB (L.take i)) ++ Cn.litsB ((L.getD i []).take k)) ++ (bytesI (strOfNums (Cn.itoaI ((L.getD i []).getD k 0))))) ++ [32])))] (by kernel_rfl) ?_ ?_
       ·
        refine (ap ?_ az)
        (have h8 := hq4 (by omega); simp only [List.length_append, List.length_cons, List.length_nil, bytesI_len]; omega)
       refine fin_block ?_
       refine fin_then ?_
       refine tri_regD hcx [] [7] [5, 1, 6] [701] [Fit ((k : Int) + 1)] [(7, .int ((k : Int) + 1))] [] (by kernel_rfl) ?_ ?_
       ·
        refine (ap ?_ az)
        omega
       refine fin_round (k + 1) ?_ ?_ ?_ ?_
       ·
        show (k + 1) ≤ (L.getD i []).length
        omega
       ·
        show (L.getD i []).length - (k + 1) < (L.getD i []).length - k
        omega
       ·
        exact subE_mk (l := [.pto [.int N, .ls (.intss L)], .row 701, .int (i : Int), .int ((k : Int) + 1)]) (m := [.pto [.int N, .ls (.intss L)], .row 701, .int (i : Int), .int ((k + 1) : Int)]) (by kernel_rfl) (by kernel_rfl) (consE rfl (consE rfl (consE rfl (consE (congrArg AV.int (show ((k : Int) + 1) = ((k + 1) : Int) from (by first | rfl | omega | (simp; done)))) rfl))))
       ·
        exact Eq.trans (show _ = [(701, .row 5 (.bytes ((((Cn.headB N L.length ++ 10 :: Cn.clsB (L.take i)) ++ Cn.litsB ((L.getD i []).take k)) ++ (bytesI (strOfNums (Cn.itoaI ((L.getD i []).getD k 0))))) ++ [32])))] from by kernel_rfl) (consH (congrArg (fun x => ((701 : Nat), x)) (congrArg (fun x => AObj.row 5 (.bytes x)) (show ((((Cn.headB N L.length ++ 10 :: Cn.clsB (L.take i)) ++ Cn.litsB ((L.getD i []).take k)) ++ (bytesI (strOfNums (Cn.itoaI ((L.getD i []).getD k 0))))) ++ [32]) = (Cn.headB N L.length ++ 10 :: Cn.clsB (L.take i)) ++ Cn.litsB ((L.getD i []).take (k + 1)) from (by exact Cn.put_lit (by omega))))) rfl)
      ·
       skip
       have h2 := of_decide_eq_false hb2
       refine tri_exit ?_
       refine fin_then_exit ?_
       refine fin_then_exit ?_
       refine fin_block_same ?_
       refine fin_then ?_
       refine tri_regD hcx [(1002, .to 701)] [5] [1, 6] [] [((((Cn.headB N L.length ++ 10 :: Cn.clsB (L.take i)) ++ Cn.litsB ((L.getD i []).take k)).length + [48, 10].length) * 1 ≤ 140737488355328)] [(5, .row 701)] [(701, .row 5 (.bytes (((Cn.headB N L.length ++ 10 :: Cn.clsB (L.take i)) ++ Cn.litsB ((L.getD i []).take k)) ++ [48, 10])))] (by kernel_rfl) ?_ ?_
       ·
        refine (ap ?_ az)
        (simp only [List.length_cons, List.length_nil, List.length_append, List.length_map, List.length_set, List.length_replicate]; omega)
       refine fin_block ?_
       refine fin_then ?_
       refine tri_regD hcx [] [6] [5, 1] [701] [Fit ((i : Int) + 1)] [(6, .int ((i : Int) + 1))] [] (by kernel_rfl) ?_ ?_
       ·
        refine (ap ?_ az)
        omega
       refine fin_ren (ρ := [(701, .to 700)]) (keys := [1, 5, 6]) (E' := [(1, .pto [.int N, .ls (.intss L)]), (5, .row 700), (6, .int ((i : Int) + 1))]) (H' := [(700, .row 5 (.bytes (((Cn.headB N L.length ++ 10 :: Cn.clsB (L.take i)) ++ Cn.litsB ((L.getD i []).take k)) ++ [48, 10])))]) (by kernel_rfl) ?_
       refine fin_round (i + 1) ?_ ?_ ?_ ?_
       ·
        show (i + 1) ≤ L.length
        omega
       ·
        show L.length - (i + 1) < L.length - i
        omega
       ·
        exact subE_mk (l := [.pto [.int N, .ls (.intss L)], .row 700, .int ((i : Int) + 1)]) (m := [.pto [.int N, .ls (.intss L)], .row 700, .int ((i + 1) : Int)]) (by kernel_rfl) (by kernel_rfl) (consE rfl (consE rfl (consE (congrArg AV.int (show ((i : Int) + 1) = ((i + 1) : Int) from (by first | rfl | omega | (simp; done)))) rfl)))
       ·
        exact Eq.trans (show _ = [(700, .row 5 (.bytes (((Cn.headB N L.length ++ 10 :: Cn.clsB (L.take i)) ++ Cn.litsB ((L.getD i []).take k)) ++ [48, 10])))] from by kernel_rfl) (consH (congrArg (fun x => ((700 : Nat), x)) (congrArg (fun x => AObj.row 5 (.bytes x)) (show (((Cn.headB N L.length ++ 10 :: Cn.clsB (L.take i)) ++ Cn.litsB ((L.getD i []).take k)) ++ [48, 10]) = (Cn.headB N L.length ++ 10 :: Cn.clsB (L.take (i + 1))) from (by exact Cn.put_cls (by omega) (by omega))))) rfl)
    ·
     skip
     have h1 := of_decide_eq_false hb1
     refine tri_exit ?_
     refine fin_then_exit ?_
     refine fin_then_exit ?_
     refine fin_block_same ?_
     refine fin_then ?_
     refine tri_seq ?_
     refine tri_regD hcx [(700, .frz)] [2, 3] [] [] [] [(2, .bytes (Cn.headB N L.length ++ 10 :: Cn.clsB (L.take i))), (3, .int 0)] [] (by kernel_rfl) ?_ ?_
     ·
      exact az
     refine fin_then ?_
     refine tri_ret ?_
     exact fin_ret [] rfl rfl trivial hcx (avs := [.bytes (Cn.headB N L.length ++ 10 :: Cn.clsB (L.take i)), .int 0]) (by kernel_rfl) (congrArg AV.tup (consE (congrArg AV.bytes (show (Cn.headB N L.length ++ 10 :: Cn.clsB (L.take i)) = (if Cn.chkV N L = 0 then Cn.putB N L else []) from (by first | (rw [if_neg hne]; done) | exact Cn.put_end (by omega) he | rfl | (rw [he]; rfl) | exact he.symm | done))) (consE (congrArg AV.int (show 0 = (Cn.chkV N L) from (by first | (rw [if_neg hne]; done) | exact Cn.put_end (by omega) he | rfl | (rw [he]; rfl) | exact he.symm | done))) rfl))) [] rfl
 ·
  cases hσ
def cx_rWords : Cx := ⟨tySp14, [(18, (coeF [.agg [.id, .ld (.intss [])]] rCheck_σ)), (67, rText_τ), (30, (coeF [.agg [.id, .ld (.intss [])]] rPut_σ))], true⟩
theorem cx_rWords_ok : CxOk Tryz.prog cx_rWords := cx_ok tySp14_ok ⟨(rCheck_sound.coe [.agg [.id, .ld (.intss [])]] rfl), rText_sound, (rPut_sound.coe [.agg [.id, .ld (.intss [])]] rfl), trivial⟩
abbrev wC1 (b : List Int) (i : Nat) : Bool := ((bif ((b.getD i 0) == 10) then false else (bif (((Cn.wS b i).2.2.1) && ((b.getD i 0) == 99)) then true else ((Cn.wS b i).2.2.2))) || ((b.getD i 0) == 32))
abbrev wC2 (b : List Int) (i : Nat) : Bool := ((wC1 b i) || ((b.getD i 0) == 9))
abbrev wC3 (b : List Int) (i : Nat) : Bool := ((wC2 b i) || ((b.getD i 0) == 10))
abbrev wC4 (b : List Int) (i : Nat) : Bool := ((wC3 b i) || ((b.getD i 0) == 13))
def rWords_σ : CtF
  | [.im (.ls (.bytes b))], [] => some (b.length ≤ 100000 ∧ Cn.isBytes b, .row 0, [some (.row 9 (.strs ((Cn.wordsV b).map strOfNums)))])
  | _, _ => none
theorem rWords_sound : Sound Tryz.prog 71 rWords_σ := by
 refine sound_mk (cx := cx_rWords) (fn := Tryz.f71) Tryz.func71 (by kernel_rfl) rfl ?_
 intro w0 G0 args os p r outs hσ hp hm0 hd0
 have hcx : CxOk Tryz.prog cx_rWords := cx_rWords_ok
 unfold rWords_σ at hσ
 split at hσ
 ·
  rename_i b
  simp only [Option.some.injEq, Prod.mk.injEq] at hσ
  obtain ⟨rfl, rfl, rfl⟩ := hσ
  obtain ⟨wW, wO, wm, wβ, wd⟩ := w0
  replace hm0 : wm = 0 := hm0
  subst hm0
  replace hd0 : wd = [] := hd0
  subst hd0
  refine ⟨by kernel_rfl, ?_⟩
  change Tri ⟨_, _, _, _, _, _⟩ [(0, .bytes b)] [] _ _
  obtain ⟨hm1, hb⟩ := hp
  refine tri_seq ?_
  refine tri_regD hcx [] [] [0] [] [] [] [] (by kernel_rfl) ?_ ?_
  ·
   exact az
  refine fin_then ?_
  refine tri_seq ?_
  refine tri_regD hcx [] [3] [0] [] [] [(3, .im (.val (.slice none 0 0)))] [] (by kernel_rfl) ?_ ?_
  ·
   exact az
  refine fin_then ?_
  refine tri_seq ?_
  refine tri_regD hcx [] [4] [3, 0] [] [] [(4, .im (.val (.string (⟨#[]⟩ : ByteArray))))] [] (by kernel_rfl) ?_ ?_
  ·
   exact az
  refine fin_then ?_
  refine tri_seq ?_
  refine tri_regD hcx [] [5] [4, 3, 0] [] [] [(5, .bool true)] [] (by kernel_rfl) ?_ ?_
  ·
   exact az
  refine fin_then ?_
  refine tri_seq ?_
  refine tri_regD hcx [] [6] [5, 4, 3, 0] [] [] [(6, .bool false)] [] (by kernel_rfl) ?_ ?_
  ·
   exact az
  refine fin_then ?_
  refine tri_seq ?_
  refine tri_seq ?_
  refine tri_regD hcx [] [7] [6, 5, 4, 3, 0] [] [] [(7, .int 0)] [] (by kernel_rfl) ?_ ?_
  ·
   exact az
  refine fin_then ?_
  refine tri_block ?_
  refine tri_row 3 700 9 (.strs []) (by kernel_rfl) (by kernel_rfl) (by kernel_rfl) (by kernel_rfl) (E' := [(7, .int 0), (6, .bool false), (5, .bool true), (4, .im (.val (.string (⟨#[]⟩ : ByteArray)))), (3, .row 700), (0, .bytes b)]) (by kernel_rfl) ?_
  refine tri_loop (X := Nat) (fun x0 => x0 ≤ b.length) (fun x0 => [(0, .bytes b), (3, .row 700), (4, .im (.val (.string (strOfNums (Cn.wS b x0).2.1)))), (5, .bool ((Cn.wS b x0).2.2.1)), (6, .bool ((Cn.wS b x0).2.2.2)), (7, .int (x0 : Int))]) (fun x0 => [(700, .row 9 (.strs ((Cn.wS b x0).1.map strOfNums)))]) (fun x0 => b.length - x0) (0) ?_ ?_ ?_ ?_
  ·
   show 0 ≤ b.length
   omega
  ·
   exact subE_mk (l := [.bytes b, .row 700, .im (.val (.string (⟨#[]⟩ : ByteArray))), .bool true, .bool false, .int 0]) (m := [.bytes b, .row 700, .im (.val (.string (strOfNums (Cn.wS b 0).2.1))), .bool ((Cn.wS b 0).2.2.1), .bool ((Cn.wS b 0).2.2.2), .int (0 : Int)]) (by kernel_rfl) (by kernel_rfl) (consE rfl (consE rfl (consE (congrArg (fun x => AV.im (.val (.string x))) (show (⟨#[]⟩ : ByteArray) = (strOfNums (Cn.wS b 0).2.1) from (by (rw [Cn.wS_0]; rfl)))) (consE (congrArg AV.bool (show true = (Cn.wS b 0).2.2.1 from (by (rw [Cn.wS_0])))) (consE (congrArg AV.bool (show false = (Cn.wS b 0).2.2.2 from (by (rw [Cn.wS_0])))) (consE (congrArg AV.int (show 0 = (0 : Int) from (by first | rfl | omega | (simp; done)))) rfl))))))
  ·
   exact Eq.trans (show _ = [(700, .row 9 (.strs []))] from by kernel_rfl) (consH (congrArg (fun x => ((700 : Nat), x)) (congrArg (fun x => AObj.row 9 (.strs x)) (show [] = ((Cn.wS b 0).1.map strOfNums) from (by (rw [Cn.wS_0]; rfl))))) rfl)
  ·
   intro i hI
   replace hI : i ≤ b.length := hI
   change Tri _ [(0, .bytes b), (3, .row 700), (4, .im (.val (.string (strOfNums (Cn.wS b i).2.1)))), (5, .bool ((Cn.wS b i).2.2.1)), (6, .bool ((Cn.wS b i).2.2.2)), (7, .int (i : Int))] [(700, .row 9 (.strs ((Cn.wS b i).1.map strOfNums)))] _ _
   have hwl := fun (h : i ≤ b.length) => Cn.ws_len b i h
   have hsz := Cn.str_size (Cn.wS b i).2.1
   have hs1 := Cn.str_size [b.getD i 0]
   have hml : ((Cn.wS b i).1.map strOfNums).length = (Cn.wS b i).1.length := List.length_map ..
   refine tri_seq ?_
   refine tri_seq ?_
   refine tri_regD hcx [] [11] [0, 3, 4, 5, 6, 7] [700] [] [(11, .bool (decide ((i : Int) < (b.length : Int))))] [] (by kernel_rfl) ?_ ?_
   ·
    exact az
   refine fin_then ?_
   refine tri_cond (b := (decide ((i : Int) < (b.length : Int)))) (by kernel_rfl) (fun hb0 => ?_) (fun hb0 => ?_)
   ·
    skip
    have h0 := of_decide_eq_true hb0
    refine tri_skip ?_
    refine fin_then ?_
    refine tri_seq ?_
    refine tri_block ?_
    refine tri_join (X := Unit) (fun _ => True) (fun _ => [(0, .bytes b), (3, .row 700), (4, .im (.val (.string (strOfNums (Cn.wS b i).2.1)))), (6, .bool (bif (((Cn.wS b i).2.2.1) && ((b.getD i 0) == 99)) then true else ((Cn.wS b i).2.2.2))), (7, .int (i : Int))]) (fun _ => [(700, .row 9 (.strs ((Cn.wS b i).1.map strOfNums)))]) ?_ (fun _ _ => ?_)
    ·
     skip
     refine tri_seq ?_
     refine tri_regD hcx [] [21] [0, 3, 4, 6, 7] [700] [((Cn.wS b i).2.2.1 = true → ((Cn.wS b i).2.2.1 = true)), ((Cn.wS b i).2.2.1 = true → ((Cn.wS b i).2.2.1 = true)), ((Cn.wS b i).2.2.1 = true → ((0 : Int) ≤ (i : Int) ∧ (i : Int) < (b.length : Int))), ((Cn.wS b i).2.2.1 = true → ((Cn.wS b i).2.2.1 = true)), ((Cn.wS b i).2.2.1 = true → ((Cn.wS b i).2.2.1 = true)), ((Cn.wS b i).2.2.1 = true → (Cn.wS b i).2.2.1 = true)] [(21, .bool (((Cn.wS b i).2.2.1) && ((b.getD i 0) == 99)))] [] (by kernel_rfl) ?_ ?_
     ·
      refine (ap ?_ (ap ?_ (ap ?_ (ap ?_ (ap ?_ (ap (by exact id) az))))))
      all_goals
       first | omega | exact id
     refine fin_then ?_
     refine tri_cond (b := (((Cn.wS b i).2.2.1) && ((b.getD i 0) == 99))) (by kernel_rfl) (fun hb1 => ?_) (fun hb1 => ?_)
     ·
      skip
      have h1 := hb1
      skip
      refine tri_regD hcx [] [6] [0, 3, 4, 7] [700] [] [(6, .bool true)] [] (by kernel_rfl) ?_ ?_
      ·
       exact az
      refine fin_join () trivial ?_ ?_
      ·
       exact subE_mk (l := [.bytes b, .row 700, .im (.val (.string (strOfNums (Cn.wS b i).2.1))), .bool true, .int (i : Int)]) (m := [.bytes b, .row 700, .im (.val (.string (strOfNums (Cn.wS b i).2.1))), .bool (bif (((Cn.wS b i).2.2.1) && ((b.getD i 0) == 99)) then true else ((Cn.wS b i).2.2.2)), .int (i : Int)]) (by kernel_rfl) (by kernel_rfl) (consE rfl (consE rfl (consE rfl (consE (congrArg AV.bool (show true = (bif (((Cn.wS b i).2.2.1) && ((b.getD i 0) == 99)) then true else ((Cn.wS b i).2.2.2)) from (by simp only [hb1, cond_true, cond_false]))) rfl))))
      ·
       kernel_rfl
     ·
      skip
      have h1 := hb1
      skip
      refine tri_skip ?_
      refine fin_join () trivial ?_ ?_
      ·
       exact subE_mk (l := [.bytes b, .row 700, .im (.val (.string (strOfNums (Cn.wS b i).2.1))), .bool ((Cn.wS b i).2.2.2), .int (i : Int)]) (m := [.bytes b, .row 700, .im (.val (.string (strOfNums (Cn.wS b i).2.1))), .bool (bif (((Cn.wS b i).2.2.1) && ((b.getD i 0) == 99)) then true else ((Cn.wS b i).2.2.2)), .int (i : Int)]) (by kernel_rfl) (by kernel_rfl) (consE rfl (consE rfl (consE rfl (consE (congrArg AV.bool (show (Cn.wS b i).2.2.2 = (bif (((Cn.wS b i).2.2.1) && ((b.getD i 0) == 99)) then true else ((Cn.wS b i).2.2.2)) from (by simp only [hb1, cond_true, cond_false]))) rfl))))
      ·
       kernel_rfl
    refine tri_seq ?_
    refine tri_regD hcx [] [5] [0, 3, 4, 6, 7] [700] [((0 : Int) ≤ (i : Int) ∧ (i : Int) < (b.length : Int))] [(5, .bool ((b.getD i 0) == 10))] [] (by kernel_rfl) ?_ ?_
    ·
     refine (ap ?_ az)
     omega
    refine fin_then ?_
    refine tri_join (X := Unit) (fun _ => True) (fun _ => [(5, .bool ((b.getD i 0) == 10)), (0, .bytes b), (3, .row 700), (4, .im (.val (.string (strOfNums (Cn.wS b i).2.1)))), (6, .bool (bif ((b.getD i 0) == 10) then false else (bif (((Cn.wS b i).2.2.1) && ((b.getD i 0) == 99)) then true else ((Cn.wS b i).2.2.2)))), (7, .int (i : Int))]) (fun _ => [(700, .row 9 (.strs ((Cn.wS b i).1.map strOfNums)))]) ?_ (fun _ _ => ?_)
    ·
     skip
     refine tri_seq ?_
     refine tri_regD hcx [] [27] [5, 0, 3, 4, 6, 7] [700] [] [(27, .bool ((b.getD i 0) == 10))] [] (by kernel_rfl) ?_ ?_
     ·
      exact az
     refine fin_then ?_
     refine tri_cond (b := ((b.getD i 0) == 10)) (by kernel_rfl) (fun hb2 => ?_) (fun hb2 => ?_)
     ·
      skip
      have h2 := hb2
      skip
      refine tri_regD hcx [] [6] [5, 0, 3, 4, 7] [700] [] [(6, .bool false)] [] (by kernel_rfl) ?_ ?_
      ·
       exact az
      refine fin_join () trivial ?_ ?_
      ·
       exact subE_mk (l := [.bool ((b.getD i 0) == 10), .bytes b, .row 700, .im (.val (.string (strOfNums (Cn.wS b i).2.1))), .bool false, .int (i : Int)]) (m := [.bool ((b.getD i 0) == 10), .bytes b, .row 700, .im (.val (.string (strOfNums (Cn.wS b i).2.1))), .bool (bif ((b.getD i 0) == 10) then false else (bif (((Cn.wS b i).2.2.1) && ((b.getD i 0) == 99)) then true else ((Cn.wS b i).2.2.2))), .int (i : Int)]) (by kernel_rfl) (by kernel_rfl) (consE rfl (consE rfl (consE rfl (consE rfl (consE (congrArg AV.bool (show false = (bif ((b.getD i 0) == 10) then false else (bif (((Cn.wS b i).2.2.1) && ((b.getD i 0) == 99)) then true else ((Cn.wS b i).2.2.2))) from (by simp only [hb2, cond_true, cond_false]))) rfl)))))
      ·
       kernel_rfl
     ·
      skip
      have h2 := hb2
      skip
      refine tri_skip ?_
      refine fin_join () trivial ?_ ?_
      ·
       exact subE_mk (l := [.bool ((b.getD i 0) == 10), .bytes b, .row 700, .im (.val (.string (strOfNums (Cn.wS b i).2.1))), .bool (bif (((Cn.wS b i).2.2.1) && ((b.getD i 0) == 99)) then true else ((Cn.wS b i).2.2.2)), .int (i : Int)]) (m := [.bool ((b.getD i 0) == 10), .bytes b, .row 700, .im (.val (.string (strOfNums (Cn.wS b i).2.1))), .bool (bif ((b.getD i 0) == 10) then false else (bif (((Cn.wS b i).2.2.1) && ((b.getD i 0) == 99)) then true else ((Cn.wS b i).2.2.2))), .int (i : Int)]) (by kernel_rfl) (by kernel_rfl) (consE rfl (consE rfl (consE rfl (consE rfl (consE (congrArg AV.bool (show (bif (((Cn.wS b i).2.2.1) && ((b.getD i 0) == 99)) then true else ((Cn.wS b i).2.2.2)) = (bif ((b.getD i 0) == 10) then false else (bif (((Cn.wS b i).2.2.1) && ((b.getD i 0) == 99)) then true else ((Cn.wS b i).2.2.2))) from (by simp only [hb2, cond_true, cond_false]))) rfl)))))
      ·
       kernel_rfl
    refine tri_seq ?_
    refine tri_seq ?_
    refine tri_regD hcx [] [56] [5, 0, 3, 4, 6, 7] [700] [((!(bif ((b.getD i 0) == 10) then false else (bif (((Cn.wS b i).2.2.1) && ((b.getD i 0) == 99)) then true else ((Cn.wS b i).2.2.2)))) = true → ((!(bif ((b.getD i 0) == 10) then false else (bif (((Cn.wS b i).2.2.1) && ((b.getD i 0) == 99)) then true else ((Cn.wS b i).2.2.2)))) = true)), ((!(bif ((b.getD i 0) == 10) then false else (bif (((Cn.wS b i).2.2.1) && ((b.getD i 0) == 99)) then true else ((Cn.wS b i).2.2.2)))) = true → ((!(bif ((b.getD i 0) == 10) then false else (bif (((Cn.wS b i).2.2.1) && ((b.getD i 0) == 99)) then true else ((Cn.wS b i).2.2.2)))) = true)), ((!(bif ((b.getD i 0) == 10) then false else (bif (((Cn.wS b i).2.2.1) && ((b.getD i 0) == 99)) then true else ((Cn.wS b i).2.2.2)))) = true → ((0 : Int) ≤ (i : Int) ∧ (i : Int) < (b.length : Int))), ((!(bif ((b.getD i 0) == 10) then false else (bif (((Cn.wS b i).2.2.1) && ((b.getD i 0) == 99)) then true else ((Cn.wS b i).2.2.2)))) = true → ((!(bif ((b.getD i 0) == 10) then false else (bif (((Cn.wS b i).2.2.1) && ((b.getD i 0) == 99)) then true else ((Cn.wS b i).2.2.2)))) = true)), ((!(bif ((b.getD i 0) == 10) then false else (bif (((Cn.wS b i).2.2.1) && ((b.getD i 0) == 99)) then true else ((Cn.wS b i).2.2.2)))) = true → ((!(bif ((b.getD i 0) == 10) then false else (bif (((Cn.wS b i).2.2.1) && ((b.getD i 0) == 99)) then true else ((Cn.wS b i).2.2.2)))) = true)), ((bif ((b.getD i 0) == 10) then false else (bif (((Cn.wS b i).2.2.1) && ((b.getD i 0) == 99)) then true else ((Cn.wS b i).2.2.2))) = false → (!(bif ((b.getD i 0) == 10) then false else (bif (((Cn.wS b i).2.2.1) && ((b.getD i 0) == 99)) then true else ((Cn.wS b i).2.2.2)))) = true), ((!(wC1 b i)) = true → ((!(wC1 b i)) = true)), ((!(wC1 b i)) = true → ((!(wC1 b i)) = true)), ((!(wC1 b i)) = true → ((0 : Int) ≤ (i : Int) ∧ (i : Int) < (b.length : Int))), ((!(wC1 b i)) = true → ((!(wC1 b i)) = true)), ((!(wC1 b i)) = true → ((!(wC1 b i)) = true)), ((wC1 b i) = false → (!(wC1 b i)) = true), ((!(wC2 b i)) = true → ((!(wC2 b i)) = true)), ((!(wC2 b i)) = true → ((!(wC2 b i)) = true)), ((!(wC2 b i)) = true → ((0 : Int) ≤ (i : Int) ∧ (i : Int) < (b.length : Int))), ((!(wC2 b i)) = true → ((!(wC2 b i)) = true)), ((!(wC2 b i)) = true → ((!(wC2 b i)) = true)), ((wC2 b i) = false → (!(wC2 b i)) = true), ((!(wC3 b i)) = true → ((!(wC3 b i)) = true)), ((!(wC3 b i)) = true → ((!(wC3 b i)) = true)), ((!(wC3 b i)) = true → ((0 : Int) ≤ (i : Int) ∧ (i : Int) < (b.length : Int))), ((!(wC3 b i)) = true → ((!(wC3 b i)) = true)), ((!(wC3 b i)) = true → ((!(wC3 b i)) = true)), ((wC3 b i) = false → (!(wC3 b i)) = true)] [(56, .bool (wC4 b i))] [] (by kernel_rfl) ?_ ?_
    ·
     refine (ap ?_ (ap ?_ (ap ?_ (ap ?_ (ap ?_ (ap (by exact vcNot) (ap ?_ (ap ?_ (ap ?_ (ap ?_ (ap ?_ (ap (by exact vcNot) (ap ?_ (ap ?_ (ap ?_ (ap ?_ (ap ?_ (ap (by exact vcNot) (ap ?_ (ap ?_ (ap ?_ (ap ?_ (ap ?_ (ap (by exact vcNot) az))))))))))))))))))))))))
     all_goals
      first | omega | exact id
    refine fin_then ?_
    refine tri_cond (b := (wC4 b i)) (by kernel_rfl) (fun hb3 => ?_) (fun hb3 => ?_)
    ·
     skip
     have h3 := hb3
     have hs := h3
     refine tri_join (X := Unit) (fun _ => True) (fun _ => [(5, .bool ((b.getD i 0) == 10)), (0, .bytes b), (3, .row 700), (6, .bool (bif ((b.getD i 0) == 10) then false else (bif (((Cn.wS b i).2.2.1) && ((b.getD i 0) == 99)) then true else ((Cn.wS b i).2.2.2)))), (7, .int (i : Int))]) (fun _ => [(700, .row 9 (.strs (bif (!((strOfNums (Cn.wS b i).2.1).toList == (⟨#[]⟩ : ByteArray).toList)) then (((Cn.wS b i).1.map strOfNums) ++ [(strOfNums (Cn.wS b i).2.1)]) else ((Cn.wS b i).1.map strOfNums))))]) ?_ (fun _ _ => ?_)
     ·
      skip
      refine tri_seq ?_
      refine tri_regD hcx [] [58] [5, 0, 3, 4, 6, 7] [700] [] [(58, .bool (!((strOfNums (Cn.wS b i).2.1).toList == (⟨#[]⟩ : ByteArray).toList)))] [] (by kernel_rfl) ?_ ?_
      ·
       exact az
      refine fin_then ?_
      refine tri_cond (b := (!((strOfNums (Cn.wS b i).2.1).toList == (⟨#[]⟩ : ByteArray).toList))) (by kernel_rfl) (fun hb4 => ?_) (fun hb4 => ?_)
      ·
       skip
       have h4 := hb4
       skip
       refine tri_regD hcx [(1003, .to 700)] [3] [5, 0, 6, 7] [] [((((Cn.wS b i).1.map strOfNums).length + [(strOfNums (Cn.wS b i).2.1)].length) * 16 ≤ 140737488355328)] [(3, .row 700)] [(700, .row 9 (.strs (((Cn.wS b i).1.map strOfNums) ++ [(strOfNums (Cn.wS b i).2.1)])))] (by kernel_rfl) ?_ ?_
       ·
        refine (ap ?_ az)
        (simp only [List.length_cons, List.length_nil, List.length_append, List.length_map, List.length_set, List.length_replicate]; omega)
       refine fin_join () trivial ?_ ?_
       ·
        exact subE_mk (l := [.bool ((b.getD i 0) == 10), .bytes b, .row 700, .bool (bif ((b.getD i 0) == 10) then false else (bif (((Cn.wS b i).2.2.1) && ((b.getD i 0) == 99)) then true else ((Cn.wS b i).2.2.2))), .int (i : Int)]) (m := [.bool ((b.getD i 0) == 10), .bytes b, .row 700, .bool (bif ((b.getD i 0) == 10) then false else (bif (((Cn.wS b i).2.2.1) && ((b.getD i 0) == 99)) then true else ((Cn.wS b i).2.2.2))), .int (i : Int)]) (by kernel_rfl) (by kernel_rfl) rfl
       ·
        exact Eq.trans (show _ = [(700, .row 9 (.strs (((Cn.wS b i).1.map strOfNums) ++ [(strOfNums (Cn.wS b i).2.1)])))] from by kernel_rfl) (by simp only [hb4, cond_true, cond_false])
      ·
       skip
       have h4 := hb4
       skip
       refine tri_skip ?_
       refine fin_join () trivial ?_ ?_
       ·
        exact subE_mk (l := [.bool ((b.getD i 0) == 10), .bytes b, .row 700, .bool (bif ((b.getD i 0) == 10) then false else (bif (((Cn.wS b i).2.2.1) && ((b.getD i 0) == 99)) then true else ((Cn.wS b i).2.2.2))), .int (i : Int)]) (m := [.bool ((b.getD i 0) == 10), .bytes b, .row 700, .bool (bif ((b.getD i 0) == 10) then false else (bif (((Cn.wS b i).2.2.1) && ((b.getD i 0) == 99)) then true else ((Cn.wS b i).2.2.2))), .int (i : Int)]) (by kernel_rfl) (by kernel_rfl) rfl
       ·
        exact Eq.trans (show _ = [(700, .row 9 (.strs ((Cn.wS b i).1.map strOfNums)))] from by kernel_rfl) (by simp only [hb4, cond_true, cond_false])
     refine tri_seq ?_
     refine tri_regD hcx [] [4] [5, 0, 3, 6, 7] [700] [] [(4, .im (.val (.string (⟨#[]⟩ : ByteArray))))] [] (by kernel_rfl) ?_ ?_
     ·
      exact az
     refine fin_then ?_
     refine tri_exit ?_
     refine fin_then_exit ?_
     refine fin_block_same ?_
     refine fin_then ?_
     refine tri_regD hcx [] [7] [4, 5, 0, 3, 6] [700] [Fit ((i : Int) + 1)] [(7, .int ((i : Int) + 1))] [] (by kernel_rfl) ?_ ?_
     ·
      refine (ap ?_ az)
      omega
     refine fin_round (i + 1) ?_ ?_ ?_ ?_
     ·
      show (i + 1) ≤ b.length
      omega
     ·
      show b.length - (i + 1) < b.length - i
      omega
     ·
      exact subE_mk (l := [.bytes b, .row 700, .im (.val (.string (⟨#[]⟩ : ByteArray))), .bool ((b.getD i 0) == 10), .bool (bif ((b.getD i 0) == 10) then false else (bif (((Cn.wS b i).2.2.1) && ((b.getD i 0) == 99)) then true else ((Cn.wS b i).2.2.2))), .int ((i : Int) + 1)]) (m := [.bytes b, .row 700, .im (.val (.string (strOfNums (Cn.wS b (i + 1)).2.1))), .bool ((Cn.wS b (i + 1)).2.2.1), .bool ((Cn.wS b (i + 1)).2.2.2), .int ((i + 1) : Int)]) (by kernel_rfl) (by kernel_rfl) (consE rfl (consE rfl (consE (congrArg (fun x => AV.im (.val (.string x))) (show (⟨#[]⟩ : ByteArray) = (strOfNums (Cn.wS b (i + 1)).2.1) from (by first | (rw [Cn.ws_1 (by omega) hs]; rfl) | (rw [Cn.ws_0 (by omega) hs]; exact Cn.str_app _ _)))) (consE (congrArg AV.bool (show ((b.getD i 0) == 10) = (Cn.wS b (i + 1)).2.2.1 from (by first | (rw [Cn.ws_1 (by omega) hs]; done) | (rw [Cn.ws_0 (by omega) hs]; done) | (rw [Cn.ws_1 (by omega) hs]; rfl) | (rw [Cn.ws_0 (by omega) hs]; rfl)))) (consE (congrArg AV.bool (show (bif ((b.getD i 0) == 10) then false else (bif (((Cn.wS b i).2.2.1) && ((b.getD i 0) == 99)) then true else ((Cn.wS b i).2.2.2))) = (Cn.wS b (i + 1)).2.2.2 from (by first | (rw [Cn.ws_1 (by omega) hs]; done) | (rw [Cn.ws_0 (by omega) hs]; done) | (rw [Cn.ws_1 (by omega) hs]; rfl) | (rw [Cn.ws_0 (by omega) hs]; rfl)))) (consE (congrArg AV.int (show ((i : Int) + 1) = ((i + 1) : Int) from (by first | rfl | omega | (simp; done)))) rfl))))))
     ·
      exact Eq.trans (show _ = [(700, .row 9 (.strs (bif (!((strOfNums (Cn.wS b i).2.1).toList == (⟨#[]⟩ : ByteArray).toList)) then (((Cn.wS b i).1.map strOfNums) ++ [(strOfNums (Cn.wS b i).2.1)]) else ((Cn.wS b i).1.map strOfNums))))] from by kernel_rfl) (consH (congrArg (fun x => ((700 : Nat), x)) (congrArg (fun x => AObj.row 9 (.strs x)) (show (bif (!((strOfNums (Cn.wS b i).2.1).toList == (⟨#[]⟩ : ByteArray).toList)) then (((Cn.wS b i).1.map strOfNums) ++ [(strOfNums (Cn.wS b i).2.1)]) else ((Cn.wS b i).1.map strOfNums)) = ((Cn.wS b (i + 1)).1.map strOfNums) from (by first | (rw [Cn.ws_1 (by omega) hs]; exact Cn.ws_row) | (rw [Cn.ws_0 (by omega) hs]; done) | (rw [Cn.ws_0 (by omega) hs]; rfl))))) rfl)
    ·
     skip
     have h3 := hb3
     have hs := h3
     refine tri_skip ?_
     refine fin_then ?_
     refine tri_regD hcx [] [4] [5, 0, 3, 6, 7] [700] [((0 : Int) ≤ (i : Int) ∧ (i : Int) < (b.length : Int)), ((strOfNums (Cn.wS b i).2.1).size + (strOfNums [(b.getD i 0)]).size ≤ maxLen)] [(4, .im (.val (.string ((strOfNums (Cn.wS b i).2.1) ++ (strOfNums [(b.getD i 0)])))))] [] (by kernel_rfl) ?_ ?_
     ·
      refine (ap ?_ (ap ?_ az))
      all_goals
       first | omega | (have h8 := hwl (by omega); rw [hsz, hs1]; simp only [List.length_cons, List.length_nil]; unfold maxLen; omega)
     refine fin_block ?_
     refine fin_then ?_
     refine tri_regD hcx [] [7] [4, 5, 0, 3, 6] [700] [Fit ((i : Int) + 1)] [(7, .int ((i : Int) + 1))] [] (by kernel_rfl) ?_ ?_
     ·
      refine (ap ?_ az)
      omega
     refine fin_round (i + 1) ?_ ?_ ?_ ?_
     ·
      show (i + 1) ≤ b.length
      omega
     ·
      show b.length - (i + 1) < b.length - i
      omega
     ·
      exact subE_mk (l := [.bytes b, .row 700, .im (.val (.string ((strOfNums (Cn.wS b i).2.1) ++ (strOfNums [(b.getD i 0)])))), .bool ((b.getD i 0) == 10), .bool (bif ((b.getD i 0) == 10) then false else (bif (((Cn.wS b i).2.2.1) && ((b.getD i 0) == 99)) then true else ((Cn.wS b i).2.2.2))), .int ((i : Int) + 1)]) (m := [.bytes b, .row 700, .im (.val (.string (strOfNums (Cn.wS b (i + 1)).2.1))), .bool ((Cn.wS b (i + 1)).2.2.1), .bool ((Cn.wS b (i + 1)).2.2.2), .int ((i + 1) : Int)]) (by kernel_rfl) (by kernel_rfl) (consE rfl (consE rfl (consE (congrArg (fun x => AV.im (.val (.string x))) (show ((strOfNums (Cn.wS b i).2.1) ++ (strOfNums [(b.getD i 0)])) = (strOfNums (Cn.wS b (i + 1)).2.1) from (by first | (rw [Cn.ws_1 (by omega) hs]; rfl) | (rw [Cn.ws_0 (by omega) hs]; exact Cn.str_app _ _)))) (consE (congrArg AV.bool (show ((b.getD i 0) == 10) = (Cn.wS b (i + 1)).2.2.1 from (by first | (rw [Cn.ws_1 (by omega) hs]; done) | (rw [Cn.ws_0 (by omega) hs]; done) | (rw [Cn.ws_1 (by omega) hs]; rfl) | (rw [Cn.ws_0 (by omega) hs]; rfl)))) (consE (congrArg AV.bool (show (bif ((b.getD i 0) == 10) then false else (bif (((Cn.wS b i).2.2.1) && ((b.getD i 0) == 99)) then true else ((Cn.wS b i).2.2.2))) = (Cn.wS b (i + 1)).2.2.2 from (by first | (rw [Cn.ws_1 (by omega) hs]; done) | (rw [Cn.ws_0 (by omega) hs]; done) | (rw [Cn.ws_1 (by omega) hs]; rfl) | (rw [Cn.ws_0 (by omega) hs]; rfl)))) (consE (congrArg AV.int (show ((i : Int) + 1) = ((i + 1) : Int) from (by first | rfl | omega | (simp; done)))) rfl))))))
     ·
      exact Eq.trans (show _ = [(700, .row 9 (.strs ((Cn.wS b i).1.map strOfNums)))] from by kernel_rfl) (consH (congrArg (fun x => ((700 : Nat), x)) (congrArg (fun x => AObj.row 9 (.strs x)) (show ((Cn.wS b i).1.map strOfNums) = ((Cn.wS b (i + 1)).1.map strOfNums) from (by first | (rw [Cn.ws_1 (by omega) hs]; exact Cn.ws_row) | (rw [Cn.ws_0 (by omega) hs]; done) | (rw [Cn.ws_0 (by omega) hs]; rfl))))) rfl)
   ·
    skip
    have h0 := of_decide_eq_false hb0
    refine tri_exit ?_
    refine fin_then_exit ?_
    refine fin_then_exit ?_
    refine fin_block_same ?_
    refine fin_then ?_
    refine tri_join (X := Unit) (fun _ => True) (fun _ => [(3, .row 700)]) (fun _ => [(700, .row 9 (.strs (bif (!((strOfNums (Cn.wS b i).2.1).toList == (⟨#[]⟩ : ByteArray).toList)) then (((Cn.wS b i).1.map strOfNums) ++ [(strOfNums (Cn.wS b i).2.1)]) else ((Cn.wS b i).1.map strOfNums))))]) ?_ (fun _ _ => ?_)
    ·
     skip
     refine tri_seq ?_
     refine tri_regD hcx [] [72] [3, 4] [700] [] [(72, .bool (!((strOfNums (Cn.wS b i).2.1).toList == (⟨#[]⟩ : ByteArray).toList)))] [] (by kernel_rfl) ?_ ?_
     ·
      exact az
     refine fin_then ?_
     refine tri_cond (b := (!((strOfNums (Cn.wS b i).2.1).toList == (⟨#[]⟩ : ByteArray).toList))) (by kernel_rfl) (fun hb5 => ?_) (fun hb5 => ?_)
     ·
      skip
      have h5 := hb5
      skip
      refine tri_regD hcx [(1003, .to 700)] [3] [] [] [((((Cn.wS b i).1.map strOfNums).length + [(strOfNums (Cn.wS b i).2.1)].length) * 16 ≤ 140737488355328)] [(3, .row 700)] [(700, .row 9 (.strs (((Cn.wS b i).1.map strOfNums) ++ [(strOfNums (Cn.wS b i).2.1)])))] (by kernel_rfl) ?_ ?_
      ·
       refine (ap ?_ az)
       (simp only [List.length_cons, List.length_nil, List.length_append, List.length_map, List.length_set, List.length_replicate]; omega)
      refine fin_join () trivial ?_ ?_
      ·
       exact subE_mk (l := [.row 700]) (m := [.row 700]) (by kernel_rfl) (by kernel_rfl) rfl
      ·
       exact Eq.trans (show _ = [(700, .row 9 (.strs (((Cn.wS b i).1.map strOfNums) ++ [(strOfNums (Cn.wS b i).2.1)])))] from by kernel_rfl) (by simp only [hb5, cond_true, cond_false])
     ·
      skip
      have h5 := hb5
      skip
      refine tri_skip ?_
      refine fin_join () trivial ?_ ?_
      ·
       exact subE_mk (l := [.row 700]) (m := [.row 700]) (by kernel_rfl) (by kernel_rfl) rfl
      ·
       exact Eq.trans (show _ = [(700, .row 9 (.strs ((Cn.wS b i).1.map strOfNums)))] from by kernel_rfl) (by simp only [hb5, cond_true, cond_false])
    refine tri_seq ?_
    refine tri_regD hcx [] [2] [] [700] [] [(2, .row 700)] [] (by kernel_rfl) ?_ ?_
    ·
     exact az
    refine fin_then ?_
    refine tri_ret ?_
    refine fin_ren (ρ := [(700, .to 0)]) (keys := [2]) (E' := [(2, .row 0)]) (H' := [(0, .row 9 (.strs (bif (!((strOfNums (Cn.wS b i).2.1).toList == (⟨#[]⟩ : ByteArray).toList)) then (((Cn.wS b i).1.map strOfNums) ++ [(strOfNums (Cn.wS b i).2.1)]) else ((Cn.wS b i).1.map strOfNums))))]) (by kernel_rfl) ?_
    exact fin_ret [] rfl rfl trivial hcx (avs := [.row 0]) (by kernel_rfl) rfl [true] (Eq.trans (show _ = [some (.row 9 (.strs (bif (!((strOfNums (Cn.wS b i).2.1).toList == (⟨#[]⟩ : ByteArray).toList)) then (((Cn.wS b i).1.map strOfNums) ++ [(strOfNums (Cn.wS b i).2.1)]) else ((Cn.wS b i).1.map strOfNums))))] from by kernel_rfl) (consO (congrArg some (congrArg (fun x => AObj.row 9 (.strs x)) (show (bif (!((strOfNums (Cn.wS b i).2.1).toList == (⟨#[]⟩ : ByteArray).toList)) then (((Cn.wS b i).1.map strOfNums) ++ [(strOfNums (Cn.wS b i).2.1)]) else ((Cn.wS b i).1.map strOfNums)) = ((Cn.wordsV b).map strOfNums) from (by exact Cn.ws_end (by omega))))) rfl))
 ·
  cases hσ
def rNumber_σ (nn : Nat) : CtF
  | [.im (.val (.string s))], [] => some (s.size ≤ 1000000000 ∧ s.size < nn, .tup [.int ((Cn.rN (bytesI s)).1), .bool ((Cn.rN (bytesI s)).2)], [])
  | _, _ => none
def cx_rNumber (nn : Nat) : Cx := ⟨tySp14, [(18, (coeF [.agg [.id, .ld (.intss [])]] rCheck_σ)), (67, rText_τ), (30, (coeF [.agg [.id, .ld (.intss [])]] rPut_σ)), (71, (coeF [.ld (.bytes [])] rWords_σ)), (86, (rNumber_σ nn))], true⟩
theorem cx_rNumber_ok (nn : Nat) (hR : Sound Tryz.prog 86 (rNumber_σ nn)) : CxOk Tryz.prog (cx_rNumber nn) := cx_ok tySp14_ok ⟨(rCheck_sound.coe [.agg [.id, .ld (.intss [])]] rfl), rText_sound, (rPut_sound.coe [.agg [.id, .ld (.intss [])]] rfl), (rWords_sound.coe [.ld (.bytes [])] rfl), hR, trivial⟩
theorem rNumber_step (nn : Nat) (hR : Sound Tryz.prog 86 (rNumber_σ nn)) : Sound Tryz.prog 86 (rNumber_σ (nn + 1)) := by
 refine sound_mk (cx := (cx_rNumber nn)) (fn := Tryz.f86) Tryz.func86 (by kernel_rfl) rfl ?_
 intro w0 G0 args os p r outs hσ hp hm0 hd0
 have hcx : CxOk Tryz.prog (cx_rNumber nn) := cx_rNumber_ok nn hR
 unfold rNumber_σ at hσ
 split at hσ
 ·
  rename_i s
  simp only [Option.some.injEq, Prod.mk.injEq] at hσ
  obtain ⟨rfl, rfl, rfl⟩ := hσ
  obtain ⟨wW, wO, wm, wβ, wd⟩ := w0
  replace hm0 : wm = 0 := hm0
  subst hm0
  replace hd0 : wd = [] := hd0
  subst hd0
  refine ⟨by kernel_rfl, ?_⟩
  change Tri ⟨_, _, _, _, _, _⟩ [(0, .im (.val (.string s)))] [] _ _
  obtain ⟨hm1, hsz⟩ := hp
  have hbl : (bytesI s).length = s.size := bytesI_len s
  have hbd := Cn.rN_bd (bytesI s)
  refine tri_seq ?_
  refine tri_regD hcx [] [] [0] [] [] [] [] (by kernel_rfl) ?_ ?_
  ·
   exact az
  refine fin_then ?_
  refine tri_seq ?_
  refine tri_seq ?_
  refine tri_regD hcx [] [15] [0] [] [((decide ((s.size : Int) > 0)) = true → ((decide ((s.size : Int) > 0)) = true)), ((decide ((s.size : Int) > 0)) = true → ((0 : Int) ≤ 0 ∧ 0 < (s.size : Int))), ((decide ((s.size : Int) > 0)) = true → ((decide ((s.size : Int) > 0)) = true)), ((decide ((s.size : Int) > 0)) = true → (decide ((s.size : Int) > 0)) = true)] [(15, .bool ((decide ((s.size : Int) > 0)) && (((bytesI s).getD 0 0) == 45)))] [] (by kernel_rfl) ?_ ?_
  ·
   refine (ap ?_ (ap ?_ (ap ?_ (ap (by exact id) az))))
   all_goals
    first | exact id | (intro h; simp at h; omega)
  refine fin_then ?_
  refine tri_cond (b := ((decide ((s.size : Int) > 0)) && (((bytesI s).getD 0 0) == 45))) (by kernel_rfl) (fun hb0 => ?_) (fun hb0 => ?_)
  ·
   skip
   have h0 := hb0
   have hM : (decide (((bytesI s).length : Int) > 0) && ((bytesI s).getD 0 0 == 45)) = true := by rw [hbl]; exact h0
   have hr := Cn.rN_minus hM
   have hd := Cn.bytesI_drop s
   have hpos := Cn.pos_of h0
   have hex := Cn.ext_size hpos
   have hb2 := Cn.rN_bd (bytesI (s.extract 1 s.size))
   refine tri_seq ?_
   refine tri_regD hcx [] [4, 5] [] [] [((0 : Int) ≤ 1 ∧ 1 ≤ (s.size : Int)), ((s.extract 1 s.size).size ≤ 1000000000 ∧ (s.extract 1 s.size).size < nn)] [(4, .int ((Cn.rN (bytesI (s.extract 1 s.size))).1)), (5, .bool ((Cn.rN (bytesI (s.extract 1 s.size))).2))] [] (by kernel_rfl) ?_ ?_
   ·
    refine (ap ?_ (ap ?_ az))
    all_goals
     omega
   refine fin_then ?_
   refine tri_seq ?_
   refine tri_regD hcx [] [2, 3] [] [] [Fit (0 - (Cn.rN (bytesI (s.extract 1 s.size))).1), ((Cn.rN (bytesI (s.extract 1 s.size))).2 = true → ((Cn.rN (bytesI (s.extract 1 s.size))).2 = true)), ((Cn.rN (bytesI (s.extract 1 s.size))).2 = true → (Cn.rN (bytesI (s.extract 1 s.size))).2 = true)] [(2, .int (0 - (Cn.rN (bytesI (s.extract 1 s.size))).1)), (3, .bool (((Cn.rN (bytesI (s.extract 1 s.size))).2) && (decide ((Cn.rN (bytesI (s.extract 1 s.size))).1 > 0))))] [] (by kernel_rfl) ?_ ?_
   ·
    refine (ap ?_ (ap ?_ (ap (by exact id) az)))
    all_goals
     first | omega | exact id
   refine fin_then ?_
   refine tri_ret ?_
   refine fin_then_ret ?_
   exact fin_ret [] rfl rfl trivial hcx (avs := [.int (0 - (Cn.rN (bytesI (s.extract 1 s.size))).1), .bool (((Cn.rN (bytesI (s.extract 1 s.size))).2) && (decide ((Cn.rN (bytesI (s.extract 1 s.size))).1 > 0)))]) (by kernel_rfl) (congrArg AV.tup (consE (congrArg AV.int (show (0 - (Cn.rN (bytesI (s.extract 1 s.size))).1) = (Cn.rN (bytesI s)).1 from (by first | (rw [hr, hd]; done) | (rw [Cn.rN_plain hM, Cn.numP_bad hB]; done) | (rw [Cn.rN_plain hM, Cn.numP_no hB (by omega) hq]; done) | (rw [Cn.rN_plain hM, Cn.numP_yes hB (by omega) hok]; done) | done))) (consE (congrArg AV.bool (show (((Cn.rN (bytesI (s.extract 1 s.size))).2) && (decide ((Cn.rN (bytesI (s.extract 1 s.size))).1 > 0))) = (Cn.rN (bytesI s)).2 from (by first | (rw [hr, hd]; done) | (rw [Cn.rN_plain hM, Cn.numP_bad hB]; done) | (rw [Cn.rN_plain hM, Cn.numP_no hB (by omega) hq]; done) | (rw [Cn.rN_plain hM, Cn.numP_yes hB (by omega) hok]; done) | done))) rfl))) [] rfl
  ·
   skip
   have h0 := hb0
   have hM : (decide (((bytesI s).length : Int) > 0) && ((bytesI s).getD 0 0 == 45)) = false := by rw [hbl]; exact h0
   refine tri_skip ?_
   refine fin_then ?_
   refine tri_seq ?_
   refine tri_seq ?_
   refine tri_regD hcx [] [46] [0] [] [((!(decide ((s.size : Int) < 1))) = true → ((!(decide ((s.size : Int) < 1))) = true)), ((!(decide ((s.size : Int) < 1))) = true → ((!(decide ((s.size : Int) < 1))) = true)), ((decide ((s.size : Int) < 1)) = false → (!(decide ((s.size : Int) < 1))) = true), ((!((decide ((s.size : Int) < 1)) || (decide ((s.size : Int) > 10)))) = true → ((!((decide ((s.size : Int) < 1)) || (decide ((s.size : Int) > 10)))) = true)), ((!((decide ((s.size : Int) < 1)) || (decide ((s.size : Int) > 10)))) = true → ((0 : Int) ≤ 0 ∧ 0 < (s.size : Int))), ((!((decide ((s.size : Int) < 1)) || (decide ((s.size : Int) > 10)))) = true → ((!((decide ((s.size : Int) < 1)) || (decide ((s.size : Int) > 10)))) = true)), ((!((decide ((s.size : Int) < 1)) || (decide ((s.size : Int) > 10)))) = true → ((!((decide ((s.size : Int) < 1)) || (decide ((s.size : Int) > 10)))) = true)), (((!((decide ((s.size : Int) < 1)) || (decide ((s.size : Int) > 10)))) && (((bytesI s).getD 0 0) == 48)) = true → (((!((decide ((s.size : Int) < 1)) || (decide ((s.size : Int) > 10)))) && (((bytesI s).getD 0 0) == 48)) = true)), (((!((decide ((s.size : Int) < 1)) || (decide ((s.size : Int) > 10)))) && (((bytesI s).getD 0 0) == 48)) = true → (((!((decide ((s.size : Int) < 1)) || (decide ((s.size : Int) > 10)))) && (((bytesI s).getD 0 0) == 48)) = true)), ((!((decide ((s.size : Int) < 1)) || (decide ((s.size : Int) > 10)))) = true → ((!((decide ((s.size : Int) < 1)) || (decide ((s.size : Int) > 10)))) = true)), ((!((decide ((s.size : Int) < 1)) || (decide ((s.size : Int) > 10)))) = true → ((((bytesI s).getD 0 0) == 48) = true → ((!((decide ((s.size : Int) < 1)) || (decide ((s.size : Int) > 10)))) && (((bytesI s).getD 0 0) == 48)) = true)), (((decide ((s.size : Int) < 1)) || (decide ((s.size : Int) > 10))) = false → (!((decide ((s.size : Int) < 1)) || (decide ((s.size : Int) > 10)))) = true)] [(46, .bool (((decide ((s.size : Int) < 1)) || (decide ((s.size : Int) > 10))) || ((((bytesI s).getD 0 0) == 48) && (decide ((s.size : Int) > 1)))))] [] (by kernel_rfl) ?_ ?_
   ·
    refine (ap ?_ (ap ?_ (ap (by exact vcNot) (ap ?_ (ap ?_ (ap ?_ (ap ?_ (ap ?_ (ap ?_ (ap ?_ (ap ?_ (ap (by exact vcNot) az))))))))))))
    all_goals
     first | exact id | exact vcH | (intro h; simp at h; omega)
   refine fin_then ?_
   refine tri_cond (b := (((decide ((s.size : Int) < 1)) || (decide ((s.size : Int) > 10))) || ((((bytesI s).getD 0 0) == 48) && (decide ((s.size : Int) > 1))))) (by kernel_rfl) (fun hb1 => ?_) (fun hb1 => ?_)
   ·
    skip
    have h1 := hb1
    have hB : Cn.badP (bytesI s) = true := by unfold Cn.badP; rw [hbl]; exact h1
    refine tri_seq ?_
    refine tri_regD hcx [] [2, 3] [] [] [] [(2, .int 0), (3, .bool false)] [] (by kernel_rfl) ?_ ?_
    ·
     exact az
    refine fin_then ?_
    refine tri_ret ?_
    refine fin_then_ret ?_
    exact fin_ret [] rfl rfl trivial hcx (avs := [.int 0, .bool false]) (by kernel_rfl) (congrArg AV.tup (consE (congrArg AV.int (show 0 = (Cn.rN (bytesI s)).1 from (by first | (rw [hr, hd]; done) | (rw [Cn.rN_plain hM, Cn.numP_bad hB]; done) | (rw [Cn.rN_plain hM, Cn.numP_no hB (by omega) hq]; done) | (rw [Cn.rN_plain hM, Cn.numP_yes hB (by omega) hok]; done) | done))) (consE (congrArg AV.bool (show false = (Cn.rN (bytesI s)).2 from (by first | (rw [hr, hd]; done) | (rw [Cn.rN_plain hM, Cn.numP_bad hB]; done) | (rw [Cn.rN_plain hM, Cn.numP_no hB (by omega) hq]; done) | (rw [Cn.rN_plain hM, Cn.numP_yes hB (by omega) hok]; done) | done))) rfl))) [] rfl
   ·
    skip
    have h1 := hb1
    have hB : Cn.badP (bytesI s) = false := by unfold Cn.badP; rw [hbl]; exact h1
    have hL := Cn.badP_len hB
    refine tri_skip ?_
    refine fin_then ?_
    refine tri_seq ?_
    refine tri_regD hcx [] [6] [0] [] [] [(6, .int 0)] [] (by kernel_rfl) ?_ ?_
    ·
     exact az
    refine fin_then ?_
    refine tri_seq ?_
    refine tri_seq ?_
    refine tri_regD hcx [] [7] [6, 0] [] [] [(7, .int 0)] [] (by kernel_rfl) ?_ ?_
    ·
     exact az
    refine fin_then ?_
    refine tri_block ?_
    refine tri_loop (X := Nat) (fun x0 => x0 ≤ s.size ∧ ∀ j, j < x0 → Cn.isDg ((bytesI s).getD j 0) = true) (fun x0 => [(0, .im (.val (.string s))), (6, .int (Cn.dval ((bytesI s).take x0))), (7, .int (x0 : Int))]) (fun x0 => []) (fun x0 => s.size - x0) (0) ?_ ?_ ?_ ?_
    ·
     show 0 ≤ s.size ∧ ∀ j, j < 0 → Cn.isDg ((bytesI s).getD j 0) = true
     exact ⟨Nat.zero_le _, fun j hj => by omega⟩
    ·
     exact subE_mk (l := [.im (.val (.string s)), .int 0, .int 0]) (m := [.im (.val (.string s)), .int (Cn.dval ((bytesI s).take 0)), .int (0 : Int)]) (by kernel_rfl) (by kernel_rfl) (consE rfl (consE (congrArg AV.int (show 0 = (Cn.dval ((bytesI s).take 0)) from (by rfl))) (consE (congrArg AV.int (show 0 = (0 : Int) from (by first | rfl | omega | (simp; done)))) rfl)))
    ·
     kernel_rfl
    ·
     intro k hI
     replace hI : k ≤ s.size ∧ ∀ j, j < k → Cn.isDg ((bytesI s).getD j 0) = true := hI
     change Tri _ [(0, .im (.val (.string s))), (6, .int (Cn.dval ((bytesI s).take k))), (7, .int (k : Int))] [] _ _
     obtain ⟨hk, hok⟩ := hI
     have hdb := Cn.dval_lt (k := k) hok (by omega) hL.1
     refine tri_seq ?_
     refine tri_seq ?_
     refine tri_regD hcx [] [50] [0, 6, 7] [] [] [(50, .bool (decide ((k : Int) < (s.size : Int))))] [] (by kernel_rfl) ?_ ?_
     ·
      exact az
     refine fin_then ?_
     refine tri_cond (b := (decide ((k : Int) < (s.size : Int)))) (by kernel_rfl) (fun hb2 => ?_) (fun hb2 => ?_)
     ·
      skip
      have h2 := of_decide_eq_true hb2
      refine tri_skip ?_
      refine fin_then ?_
      refine tri_seq ?_
      refine tri_block ?_
      refine tri_seq ?_
      refine tri_seq ?_
      refine tri_regD hcx [] [62] [0, 6, 7] [] [((0 : Int) ≤ (k : Int) ∧ (k : Int) < (s.size : Int)), ((!(decide (((bytesI s).getD k 0) < 48))) = true → ((!(decide (((bytesI s).getD k 0) < 48))) = true)), ((!(decide (((bytesI s).getD k 0) < 48))) = true → ((!(decide (((bytesI s).getD k 0) < 48))) = true)), ((!(decide (((bytesI s).getD k 0) < 48))) = true → ((0 : Int) ≤ (k : Int) ∧ (k : Int) < (s.size : Int))), ((!(decide (((bytesI s).getD k 0) < 48))) = true → ((!(decide (((bytesI s).getD k 0) < 48))) = true)), ((decide (((bytesI s).getD k 0) < 48)) = false → (!(decide (((bytesI s).getD k 0) < 48))) = true)] [(62, .bool ((decide (((bytesI s).getD k 0) < 48)) || (decide (((bytesI s).getD k 0) > 57))))] [] (by kernel_rfl) ?_ ?_
      ·
       refine (ap ?_ (ap ?_ (ap ?_ (ap ?_ (ap ?_ (ap (by exact vcNot) az))))))
       all_goals
        first | omega | exact id
      refine fin_then ?_
      refine tri_cond (b := ((decide (((bytesI s).getD k 0) < 48)) || (decide (((bytesI s).getD k 0) > 57)))) (by kernel_rfl) (fun hb3 => ?_) (fun hb3 => ?_)
      ·
       skip
       have h3 := hb3
       have hq : Cn.isDg ((bytesI s).getD k 0) = false := Cn.dig_no h3
       refine tri_seq ?_
       refine tri_regD hcx [] [2, 3] [] [] [] [(2, .int 0), (3, .bool false)] [] (by kernel_rfl) ?_ ?_
       ·
        exact az
       refine fin_then ?_
       refine tri_ret ?_
       refine fin_then_ret ?_
       refine fin_block_ret ?_
       refine fin_then_ret ?_
       refine fin_then_ret ?_
       refine fin_block_ret ?_
       refine fin_then_ret ?_
       exact fin_ret [] rfl rfl trivial hcx (avs := [.int 0, .bool false]) (by kernel_rfl) (congrArg AV.tup (consE (congrArg AV.int (show 0 = (Cn.rN (bytesI s)).1 from (by first | (rw [hr, hd]; done) | (rw [Cn.rN_plain hM, Cn.numP_bad hB]; done) | (rw [Cn.rN_plain hM, Cn.numP_no hB (by omega) hq]; done) | (rw [Cn.rN_plain hM, Cn.numP_yes hB (by omega) hok]; done) | done))) (consE (congrArg AV.bool (show false = (Cn.rN (bytesI s)).2 from (by first | (rw [hr, hd]; done) | (rw [Cn.rN_plain hM, Cn.numP_bad hB]; done) | (rw [Cn.rN_plain hM, Cn.numP_no hB (by omega) hq]; done) | (rw [Cn.rN_plain hM, Cn.numP_yes hB (by omega) hok]; done) | done))) rfl))) [] rfl
      ·
       skip
       have h3 := hb3
       have hq : Cn.isDg ((bytesI s).getD k 0) = true := Cn.dig_of h3
       have hc := Cn.dig_f hq
       refine tri_skip ?_
       refine fin_then ?_
       refine tri_regD hcx [] [6] [0, 7] [] [Fit (10 * (Cn.dval ((bytesI s).take k))), ((0 : Int) ≤ (k : Int) ∧ (k : Int) < (s.size : Int)), inK .i64 ((bytesI s).getD k 0), Fit ((10 * (Cn.dval ((bytesI s).take k))) + ((bytesI s).getD k 0)), Fit (((10 * (Cn.dval ((bytesI s).take k))) + ((bytesI s).getD k 0)) - 48)] [(6, .int (((10 * (Cn.dval ((bytesI s).take k))) + ((bytesI s).getD k 0)) - 48))] [] (by kernel_rfl) ?_ ?_
       ·
        refine (ap ?_ (ap ?_ (ap ?_ (ap ?_ (ap ?_ az)))))
        all_goals
         first | omega | (constructor <;> omega)
       refine fin_block ?_
       refine fin_then ?_
       refine tri_regD hcx [] [7] [6, 0] [] [Fit ((k : Int) + 1)] [(7, .int ((k : Int) + 1))] [] (by kernel_rfl) ?_ ?_
       ·
        refine (ap ?_ az)
        omega
       refine fin_round (k + 1) ?_ ?_ ?_ ?_
       ·
        show (k + 1) ≤ s.size ∧ ∀ j, j < (k + 1) → Cn.isDg ((bytesI s).getD j 0) = true
        exact ⟨by omega, fun j hj => by rcases (by omega : j < k ∨ j = k) with h | rfl; exact hok j h; exact hq⟩
       ·
        show s.size - (k + 1) < s.size - k
        omega
       ·
        exact subE_mk (l := [.im (.val (.string s)), .int (((10 * (Cn.dval ((bytesI s).take k))) + ((bytesI s).getD k 0)) - 48), .int ((k : Int) + 1)]) (m := [.im (.val (.string s)), .int (Cn.dval ((bytesI s).take (k + 1))), .int ((k + 1) : Int)]) (by kernel_rfl) (by kernel_rfl) (consE rfl (consE (congrArg AV.int (show (((10 * (Cn.dval ((bytesI s).take k))) + ((bytesI s).getD k 0)) - 48) = (Cn.dval ((bytesI s).take (k + 1))) from (by (rw [Cn.dval_take (by omega)]; omega)))) (consE (congrArg AV.int (show ((k : Int) + 1) = ((k + 1) : Int) from (by first | rfl | omega | (simp; done)))) rfl)))
       ·
        kernel_rfl
     ·
      skip
      have h2 := of_decide_eq_false hb2
      refine tri_exit ?_
      refine fin_then_exit ?_
      refine fin_then_exit ?_
      refine fin_block_same ?_
      refine fin_then ?_
      refine tri_seq ?_
      refine tri_regD hcx [] [2, 3] [] [] [] [(2, .int (Cn.dval ((bytesI s).take k))), (3, .bool true)] [] (by kernel_rfl) ?_ ?_
      ·
       exact az
      refine fin_then ?_
      refine tri_ret ?_
      exact fin_ret [] rfl rfl trivial hcx (avs := [.int (Cn.dval ((bytesI s).take k)), .bool true]) (by kernel_rfl) (congrArg AV.tup (consE (congrArg AV.int (show (Cn.dval ((bytesI s).take k)) = (Cn.rN (bytesI s)).1 from (by first | (rw [hr, hd]; done) | (rw [Cn.rN_plain hM, Cn.numP_bad hB]; done) | (rw [Cn.rN_plain hM, Cn.numP_no hB (by omega) hq]; done) | (rw [Cn.rN_plain hM, Cn.numP_yes hB (by omega) hok]; done) | done))) (consE (congrArg AV.bool (show true = (Cn.rN (bytesI s)).2 from (by first | (rw [hr, hd]; done) | (rw [Cn.rN_plain hM, Cn.numP_bad hB]; done) | (rw [Cn.rN_plain hM, Cn.numP_no hB (by omega) hq]; done) | (rw [Cn.rN_plain hM, Cn.numP_yes hB (by omega) hok]; done) | done))) rfl))) [] rfl
 ·
  cases hσ
theorem rNumber_all : ∀ nn, Sound Tryz.prog 86 (rNumber_σ nn) := sound_rec (sound_none (fn := Tryz.f86) Tryz.func86 (by kernel_rfl) rfl (fun args os p r outs hσ hp => by
  unfold rNumber_σ at hσ
  split at hσ
  · simp only [Option.some.injEq, Prod.mk.injEq] at hσ
    obtain ⟨rfl, rfl, rfl⟩ := hσ
    exact absurd hp.2 (Nat.not_lt_zero _)
  · cases hσ)) rNumber_step
def rNumber_τ : CtF
  | [.im (.val (.string s))], [] => some (s.size ≤ 1000000000, .tup [.int ((Cn.rN (bytesI s)).1), .bool ((Cn.rN (bytesI s)).2)], [])
  | _, _ => none
theorem rNumber_sound : Sound Tryz.prog 86 rNumber_τ := sound_all rNumber_all (fun args os p r outs hσ hp => by
  unfold rNumber_τ at hσ
  split at hσ
  · rename_i s
    simp only [Option.some.injEq, Prod.mk.injEq] at hσ
    obtain ⟨rfl, rfl, rfl⟩ := hσ
    exact ⟨s.size + 1, _, rfl, ⟨hp, Nat.lt_succ_self _⟩⟩
  · cases hσ)
def cx_rNumbers : Cx := ⟨tySp14, [(18, (coeF [.agg [.id, .ld (.intss [])]] rCheck_σ)), (67, rText_τ), (30, (coeF [.agg [.id, .ld (.intss [])]] rPut_σ)), (71, (coeF [.ld (.bytes [])] rWords_σ)), (86, rNumber_τ)], true⟩
theorem cx_rNumbers_ok : CxOk Tryz.prog cx_rNumbers := cx_ok tySp14_ok ⟨(rCheck_sound.coe [.agg [.id, .ld (.intss [])]] rfl), rText_sound, (rPut_sound.coe [.agg [.id, .ld (.intss [])]] rfl), (rWords_sound.coe [.ld (.bytes [])] rfl), rNumber_sound, trivial⟩
def rNumbers_σ : CtF
  | [.im (.ls (.strs l))], [] => some (l.length ≤ 1000000 ∧ ∀ s ∈ l, s.size ≤ 1000000000, .tup [.ints (Cn.nmV l), .bool (Cn.nmB l)], [])
  | _, _ => none
theorem rNumbers_sound : Sound Tryz.prog 72 rNumbers_σ := by
 refine sound_mk (cx := cx_rNumbers) (fn := Tryz.f72) Tryz.func72 (by kernel_rfl) rfl ?_
 intro w0 G0 args os p r outs hσ hp hm0 hd0
 have hcx : CxOk Tryz.prog cx_rNumbers := cx_rNumbers_ok
 unfold rNumbers_σ at hσ
 split at hσ
 ·
  rename_i l
  simp only [Option.some.injEq, Prod.mk.injEq] at hσ
  obtain ⟨rfl, rfl, rfl⟩ := hσ
  obtain ⟨wW, wO, wm, wβ, wd⟩ := w0
  replace hm0 : wm = 0 := hm0
  subst hm0
  replace hd0 : wd = [] := hd0
  subst hd0
  refine ⟨by kernel_rfl, ?_⟩
  change Tri ⟨_, _, _, _, _, _⟩ [(0, .strs l)] [] _ _
  obtain ⟨hm1, hm2⟩ := hp
  refine tri_seq ?_
  refine tri_regD hcx [] [] [0] [] [] [] [] (by kernel_rfl) ?_ ?_
  ·
   exact az
  refine fin_then ?_
  refine tri_seq ?_
  refine tri_regD hcx [] [4] [0] [] [] [(4, .im (.val (.slice none 0 0)))] [] (by kernel_rfl) ?_ ?_
  ·
   exact az
  refine fin_then ?_
  refine tri_seq ?_
  refine tri_seq ?_
  refine tri_regD hcx [] [5] [4, 0] [] [] [(5, .int 0)] [] (by kernel_rfl) ?_ ?_
  ·
   exact az
  refine fin_then ?_
  refine tri_block ?_
  refine tri_row 4 700 3 (.ints []) (by kernel_rfl) (by kernel_rfl) (by kernel_rfl) (by kernel_rfl) (E' := [(5, .int 0), (4, .row 700), (0, .strs l)]) (by kernel_rfl) ?_
  refine tri_loop (X := Nat) (fun x0 => x0 ≤ l.length ∧ ∀ j, j < x0 → (Cn.rN (bytesI (l.getD j ByteArray.empty))).2 = true) (fun x0 => [(0, .strs l), (4, .row 700), (5, .int (x0 : Int))]) (fun x0 => [(700, .row 3 (.ints ((l.take x0).map fun s => (Cn.rN (bytesI s)).1)))]) (fun x0 => l.length - x0) (0) ?_ ?_ ?_ ?_
  ·
   show 0 ≤ l.length ∧ ∀ j, j < 0 → (Cn.rN (bytesI (l.getD j ByteArray.empty))).2 = true
   exact ⟨Nat.zero_le _, fun j hj => by omega⟩
  ·
   exact subE_mk (l := [.strs l, .row 700, .int 0]) (m := [.strs l, .row 700, .int (0 : Int)]) (by kernel_rfl) (by kernel_rfl) (consE rfl (consE rfl (consE (congrArg AV.int (show 0 = (0 : Int) from (by first | rfl | omega | (simp; done)))) rfl)))
  ·
   exact Eq.trans (show _ = [(700, .row 3 (.ints []))] from by kernel_rfl) (consH (congrArg (fun x => ((700 : Nat), x)) (congrArg (fun x => AObj.row 3 (.ints x)) (show [] = ((l.take 0).map fun s => (Cn.rN (bytesI s)).1) from (by rfl)))) rfl)
  ·
   intro i hI
   replace hI : i ≤ l.length ∧ ∀ j, j < i → (Cn.rN (bytesI (l.getD j ByteArray.empty))).2 = true := hI
   change Tri _ [(0, .strs l), (4, .row 700), (5, .int (i : Int))] [(700, .row 3 (.ints ((l.take i).map fun s => (Cn.rN (bytesI s)).1)))] _ _
   obtain ⟨hk, hok⟩ := hI
   refine tri_seq ?_
   refine tri_seq ?_
   refine tri_regD hcx [] [11] [0, 4, 5] [700] [] [(11, .bool (decide ((i : Int) < (l.length : Int))))] [] (by kernel_rfl) ?_ ?_
   ·
    exact az
   refine fin_then ?_
   refine tri_cond (b := (decide ((i : Int) < (l.length : Int)))) (by kernel_rfl) (fun hb0 => ?_) (fun hb0 => ?_)
   ·
    skip
    have h0 := of_decide_eq_true hb0
    refine tri_skip ?_
    refine fin_then ?_
    refine tri_seq ?_
    refine tri_block ?_
    refine tri_seq ?_
    refine tri_regD hcx [] [6, 7] [0, 4, 5] [700] [((0 : Int) ≤ (i : Int) ∧ (i : Int) < (l.length : Int)), ((l.getD i ByteArray.empty).size ≤ 1000000000)] [(6, .int ((Cn.rN (bytesI (l.getD i ByteArray.empty))).1)), (7, .bool ((Cn.rN (bytesI (l.getD i ByteArray.empty))).2))] [] (by kernel_rfl) ?_ ?_
    ·
     refine (ap ?_ (ap ?_ az))
     all_goals
      first | omega | exact hm2 _ (Cn.getD_memS (by omega))
    refine fin_then ?_
    refine tri_seq ?_
    refine tri_seq ?_
    refine tri_regD hcx [] [23] [6, 0, 4, 5] [700] [] [(23, .bool (!((Cn.rN (bytesI (l.getD i ByteArray.empty))).2)))] [] (by kernel_rfl) ?_ ?_
    ·
     exact az
    refine fin_then ?_
    refine tri_cond (b := (!((Cn.rN (bytesI (l.getD i ByteArray.empty))).2))) (by kernel_rfl) (fun hb1 => ?_) (fun hb1 => ?_)
    ·
     skip
     have h1 := hb1
     have hq := Cn.notT h1
     refine tri_seq ?_
     refine tri_regD hcx [] [2, 3] [] [] [] [(2, .im (.val (.slice none 0 0))), (3, .bool false)] [] (by kernel_rfl) ?_ ?_
     ·
      exact az
     refine fin_then ?_
     refine tri_ret ?_
     refine fin_then_ret ?_
     refine fin_block_ret ?_
     refine fin_then_ret ?_
     refine fin_then_ret ?_
     refine fin_block_ret ?_
     refine fin_then_ret ?_
     refine fin_nil 2 (.ints []) (by kernel_rfl) (E' := [(2, .ints []), (3, .bool false)]) (by kernel_rfl) ?_
     exact fin_ret [] rfl rfl trivial hcx (avs := [.ints [], .bool false]) (by kernel_rfl) (congrArg AV.tup (consE (congrArg AV.ints (show [] = (Cn.nmV l) from (by first | (unfold Cn.nmV; rw [Cn.nm_no (d := ByteArray.empty) (by omega) hq]; rfl) | exact (Cn.nm_no (d := ByteArray.empty) (by omega) hq).symm | (rw [Cn.nm_all (d := ByteArray.empty) (by omega) hok, show i = l.length by omega, List.take_length]; done) | exact (Cn.nm_yes (d := ByteArray.empty) (by omega) hok).symm | done))) (consE (congrArg AV.bool (show false = (Cn.nmB l) from (by first | (unfold Cn.nmV; rw [Cn.nm_no (d := ByteArray.empty) (by omega) hq]; rfl) | exact (Cn.nm_no (d := ByteArray.empty) (by omega) hq).symm | (rw [Cn.nm_all (d := ByteArray.empty) (by omega) hok, show i = l.length by omega, List.take_length]; done) | exact (Cn.nm_yes (d := ByteArray.empty) (by omega) hok).symm | done))) rfl))) [] rfl
    ·
     skip
     have h1 := hb1
     have hq := Cn.notF h1
     refine tri_skip ?_
     refine fin_then ?_
     refine tri_regD hcx [(1003, .to 700)] [4] [0, 5] [] [((((l.take i).map fun s => (Cn.rN (bytesI s)).1).length + [(Cn.rN (bytesI (l.getD i ByteArray.empty))).1].length) * 8 ≤ 140737488355328)] [(4, .row 700)] [(700, .row 3 (.ints (((l.take i).map fun s => (Cn.rN (bytesI s)).1) ++ [(Cn.rN (bytesI (l.getD i ByteArray.empty))).1])))] (by kernel_rfl) ?_ ?_
     ·
      refine (ap ?_ az)
      (simp only [List.length_map, List.length_take, List.length_cons, List.length_nil]; omega)
     refine fin_block ?_
     refine fin_then ?_
     refine tri_regD hcx [] [5] [4, 0] [700] [Fit ((i : Int) + 1)] [(5, .int ((i : Int) + 1))] [] (by kernel_rfl) ?_ ?_
     ·
      refine (ap ?_ az)
      omega
     refine fin_round (i + 1) ?_ ?_ ?_ ?_
     ·
      show (i + 1) ≤ l.length ∧ ∀ j, j < (i + 1) → (Cn.rN (bytesI (l.getD j ByteArray.empty))).2 = true
      exact ⟨by omega, fun j hj => by rcases (by omega : j < i ∨ j = i) with h | rfl; exact hok j h; exact hq⟩
     ·
      show l.length - (i + 1) < l.length - i
      omega
     ·
      exact subE_mk (l := [.strs l, .row 700, .int ((i : Int) + 1)]) (m := [.strs l, .row 700, .int ((i + 1) : Int)]) (by kernel_rfl) (by kernel_rfl) (consE rfl (consE rfl (consE (congrArg AV.int (show ((i : Int) + 1) = ((i + 1) : Int) from (by first | rfl | omega | (simp; done)))) rfl)))
     ·
      exact Eq.trans (show _ = [(700, .row 3 (.ints (((l.take i).map fun s => (Cn.rN (bytesI s)).1) ++ [(Cn.rN (bytesI (l.getD i ByteArray.empty))).1])))] from by kernel_rfl) (consH (congrArg (fun x => ((700 : Nat), x)) (congrArg (fun x => AObj.row 3 (.ints x)) (show (((l.take i).map fun s => (Cn.rN (bytesI s)).1) ++ [(Cn.rN (bytesI (l.getD i ByteArray.empty))).1]) = ((l.take (i + 1)).map fun s => (Cn.rN (bytesI s)).1) from (by exact Cn.nm_next (by omega))))) rfl)
   ·
    skip
    have h0 := of_decide_eq_false hb0
    refine tri_exit ?_
    refine fin_then_exit ?_
    refine fin_then_exit ?_
    refine fin_block_same ?_
    refine fin_then ?_
    refine tri_seq ?_
    refine tri_regD hcx [(700, .frz)] [2, 3] [] [] [] [(2, .ints ((l.take i).map fun s => (Cn.rN (bytesI s)).1)), (3, .bool true)] [] (by kernel_rfl) ?_ ?_
    ·
     exact az
    refine fin_then ?_
    refine tri_ret ?_
    exact fin_ret [] rfl rfl trivial hcx (avs := [.ints ((l.take i).map fun s => (Cn.rN (bytesI s)).1), .bool true]) (by kernel_rfl) (congrArg AV.tup (consE (congrArg AV.ints (show ((l.take i).map fun s => (Cn.rN (bytesI s)).1) = (Cn.nmV l) from (by first | (unfold Cn.nmV; rw [Cn.nm_no (d := ByteArray.empty) (by omega) hq]; rfl) | exact (Cn.nm_no (d := ByteArray.empty) (by omega) hq).symm | (rw [Cn.nm_all (d := ByteArray.empty) (by omega) hok, show i = l.length by omega, List.take_length]; done) | exact (Cn.nm_yes (d := ByteArray.empty) (by omega) hok).symm | done))) (consE (congrArg AV.bool (show true = (Cn.nmB l) from (by first | (unfold Cn.nmV; rw [Cn.nm_no (d := ByteArray.empty) (by omega) hq]; rfl) | exact (Cn.nm_no (d := ByteArray.empty) (by omega) hq).symm | (rw [Cn.nm_all (d := ByteArray.empty) (by omega) hok, show i = l.length by omega, List.take_length]; done) | exact (Cn.nm_yes (d := ByteArray.empty) (by omega) hok).symm | done))) rfl))) [] rfl
 ·
  cases hσ
def cx_rGet : Cx := ⟨tySp14, [(18, (coeF [.agg [.id, .ld (.intss [])]] rCheck_σ)), (67, rText_τ), (30, (coeF [.agg [.id, .ld (.intss [])]] rPut_σ)), (71, (coeF [.ld (.bytes [])] rWords_σ)), (86, rNumber_τ), (72, (coeF [.ld (.strs [])] rNumbers_σ))], true⟩
theorem cx_rGet_ok : CxOk Tryz.prog cx_rGet := cx_ok tySp14_ok ⟨(rCheck_sound.coe [.agg [.id, .ld (.intss [])]] rfl), rText_sound, (rPut_sound.coe [.agg [.id, .ld (.intss [])]] rfl), (rWords_sound.coe [.ld (.bytes [])] rfl), rNumber_sound, (rNumbers_sound.coe [.ld (.strs [])] rfl), trivial⟩
abbrev gC1 (b : List Int) : Bool := ((decide ((((Cn.wordsV b).map strOfNums).length : Int) < 4)) || (!((((Cn.wordsV b).map strOfNums).getD 0 ByteArray.empty).toList == (⟨#[112]⟩ : ByteArray).toList)))
abbrev gC2 (b : List Int) : Bool := ((gC1 b) || (!((((Cn.wordsV b).map strOfNums).getD 1 ByteArray.empty).toList == (⟨#[99, 110, 102]⟩ : ByteArray).toList)))
abbrev gC3 (b : List Int) : Bool := ((gC2 b) || (((bytesI (((Cn.wordsV b).map strOfNums).getD 2 ByteArray.empty)).getD 0 0) == 45))
abbrev gC4 (b : List Int) : Bool := ((gC3 b) || (((bytesI (((Cn.wordsV b).map strOfNums).getD 3 ByteArray.empty)).getD 0 0) == 45))
abbrev gNL (b : List Int) : List Int := Cn.nmV ((((Cn.wordsV b).map strOfNums).take (((Cn.wordsV b).map strOfNums).length)).drop 2)
def rGet_σ : CtF
  | [.im (.ls (.bytes b))], [] => some (b.length ≤ 100000 ∧ Cn.isBytes b, .tup [.agg [.int ((Cn.getV (Cn.wordsV b)).1), .intss ((Cn.getV (Cn.wordsV b)).2.1)], .int ((Cn.getV (Cn.wordsV b)).2.2)], [])
  | _, _ => none
theorem rGet_sound : Sound Tryz.prog 32 rGet_σ := by
 refine sound_mk (cx := cx_rGet) (fn := Tryz.f32) Tryz.func32 (by kernel_rfl) rfl ?_
 intro w0 G0 args os p r outs hσ hp hm0 hd0
 have hcx : CxOk Tryz.prog cx_rGet := cx_rGet_ok
 have hmx : Tryz.prog.follows .mixedOrders = true := by kernel_rfl
 unfold rGet_σ at hσ
 split at hσ
 ·
  rename_i b
  simp only [Option.some.injEq, Prod.mk.injEq] at hσ
  obtain ⟨rfl, rfl, rfl⟩ := hσ
  obtain ⟨wW, wO, wm, wβ, wd⟩ := w0
  replace hm0 : wm = 0 := hm0
  subst hm0
  replace hd0 : wd = [] := hd0
  subst hd0
  refine ⟨by kernel_rfl, ?_⟩
  change Tri ⟨_, _, _, _, _, _⟩ [(0, .bytes b)] [] _ _
  obtain ⟨hm1, hm2⟩ := hp
  have hW := Cn.good_words hm2
  have hwl := Cn.words_le b
  have hsl : ((Cn.wordsV b).map strOfNums).length = (Cn.wordsV b).length := List.length_map ..
  refine tri_seq ?_
  refine tri_regD hcx [(1000, .to 602)] [2] [0] [] [] [(2, .loc 602 0)] [(602, .box [.int 0, .im (.val (.slice none 0 0))])] (by kernel_rfl) ?_ ?_
  ·
   exact az
  refine fin_then ?_
  refine tri_seq ?_
  refine tri_seq ?_
  refine tri_regD hcx [] [12] [2, 0] [602] [] [(12, .bool (decide ((b.length : Int) > 4194304)))] [] (by kernel_rfl) ?_ ?_
  ·
   exact az
  refine fin_then ?_
  refine tri_cond (b := (decide ((b.length : Int) > 4194304))) (by kernel_rfl) (fun hb0 => ?_) (fun hb0 => ?_)
  ·
   skip
   have h0 := of_decide_eq_true hb0
   omega
  ·
   skip
   have h0 := of_decide_eq_false hb0
   refine tri_skip ?_
   refine fin_then ?_
   refine tri_seq ?_
   refine tri_regD hcx [(1001, .frz)] [4] [2] [602] [(b.length ≤ 100000 ∧ Cn.isBytes b)] [(4, .strs ((Cn.wordsV b).map strOfNums))] [] (by kernel_rfl) ?_ ?_
   ·
    refine (ap ?_ az)
    exact ⟨hm1, hm2⟩
   refine fin_then ?_
   refine tri_seq ?_
   refine tri_seq ?_
   refine tri_regD hcx [] [44] [4, 2] [602] [((!(decide ((((Cn.wordsV b).map strOfNums).length : Int) < 4))) = true → ((!(decide ((((Cn.wordsV b).map strOfNums).length : Int) < 4))) = true)), ((!(decide ((((Cn.wordsV b).map strOfNums).length : Int) < 4))) = true → ((0 : Int) ≤ 0 ∧ 0 < (((Cn.wordsV b).map strOfNums).length : Int))), ((!(decide ((((Cn.wordsV b).map strOfNums).length : Int) < 4))) = true → ((!(decide ((((Cn.wordsV b).map strOfNums).length : Int) < 4))) = true)), ((!(decide ((((Cn.wordsV b).map strOfNums).length : Int) < 4))) = true → ((!(decide ((((Cn.wordsV b).map strOfNums).length : Int) < 4))) = true)), ((decide ((((Cn.wordsV b).map strOfNums).length : Int) < 4)) = false → (!(decide ((((Cn.wordsV b).map strOfNums).length : Int) < 4))) = true), ((!(gC1 b)) = true → ((!(gC1 b)) = true)), ((!(gC1 b)) = true → ((0 : Int) ≤ 1 ∧ 1 < (((Cn.wordsV b).map strOfNums).length : Int))), ((!(gC1 b)) = true → ((!(gC1 b)) = true)), ((!(gC1 b)) = true → ((!(gC1 b)) = true)), ((gC1 b) = false → (!(gC1 b)) = true), ((!(gC2 b)) = true → ((!(gC2 b)) = true)), ((!(gC2 b)) = true → ((0 : Int) ≤ 2 ∧ 2 < (((Cn.wordsV b).map strOfNums).length : Int))), ((!(gC2 b)) = true → ((!(gC2 b)) = true)), ((!(gC2 b)) = true → ((!(gC2 b)) = true)), ((!(gC2 b)) = true → ((0 : Int) ≤ 0 ∧ 0 < ((((Cn.wordsV b).map strOfNums).getD 2 ByteArray.empty).size : Int))), ((!(gC2 b)) = true → ((!(gC2 b)) = true)), ((gC2 b) = false → (!(gC2 b)) = true), ((!(gC3 b)) = true → ((!(gC3 b)) = true)), ((!(gC3 b)) = true → ((0 : Int) ≤ 3 ∧ 3 < (((Cn.wordsV b).map strOfNums).length : Int))), ((!(gC3 b)) = true → ((!(gC3 b)) = true)), ((!(gC3 b)) = true → ((!(gC3 b)) = true)), ((!(gC3 b)) = true → ((0 : Int) ≤ 0 ∧ 0 < ((((Cn.wordsV b).map strOfNums).getD 3 ByteArray.empty).size : Int))), ((!(gC3 b)) = true → ((!(gC3 b)) = true)), ((gC3 b) = false → (!(gC3 b)) = true)] [(44, .bool (gC4 b))] [] (by kernel_rfl) ?_ ?_
   ·
    refine (ap ?_ (ap ?_ (ap ?_ (ap ?_ (ap (by exact vcNot) (ap ?_ (ap ?_ (ap ?_ (ap ?_ (ap (by exact vcNot) (ap ?_ (ap ?_ (ap ?_ (ap ?_ (ap ?_ (ap ?_ (ap (by exact vcNot) (ap ?_ (ap ?_ (ap ?_ (ap ?_ (ap ?_ (ap ?_ (ap (by exact vcNot) az))))))))))))))))))))))))
    all_goals
     first | (intro h; have h8 := Cn.gl_0 h; constructor <;> omega) | (intro h; have h8 := Cn.gl_1 h; constructor <;> omega) | (intro h; have h8 := Cn.gl_2 h; constructor <;> omega) | (intro h; have h8 := Cn.gl_3 h; constructor <;> omega) | exact (fun h => Cn.g_ne hW (by have h8 := Cn.gl_2 h; omega)) | exact (fun h => Cn.g_ne hW (by have h8 := Cn.gl_3 h; omega)) | exact id
   refine fin_then ?_
   refine tri_cond (b := (gC4 b)) (by kernel_rfl) (fun hb1 => ?_) (fun hb1 => ?_)
   ·
    skip
    have h1 := hb1
    have hG := Cn.g44t hW h1
    refine tri_seq ?_
    refine tri_regD hcx [(602, .to 602)] [3] [2] [] [] [(3, .int 11)] [(602, .box [.int 0, .im (.val (.slice none 0 0))])] (by kernel_rfl) ?_ ?_
    ·
     exact az
    refine fin_then ?_
    refine tri_ret ?_
    refine fin_then_ret ?_
    refine fin_rowB 602 1 700 0 (.intss []) (by kernel_rfl) (by kernel_rfl) (by kernel_rfl) (by kernel_rfl) (H' := [(602, .box [.int 0, .row 700])]) (by kernel_rfl) ?_
    refine fin_ren (ρ := [(602, .to 990), (700, .frz)]) (keys := [2, 3]) (E' := [(2, .loc 990 0), (3, .int 11)]) (H' := [(990, .box [.int 0, .intss []])]) (by kernel_rfl) ?_
    exact fin_ret [] rfl rfl trivial hcx (avs := [.agg [.int 0, .intss []], .int 11]) (by kernel_rfl) (congrArg AV.tup (consE (congrArg AV.agg (consE (congrArg AV.int (show 0 = (Cn.getV (Cn.wordsV b)).1 from (by first | (rw [hG]; done) | rfl | done))) (consE (congrArg AV.intss (show [] = (Cn.getV (Cn.wordsV b)).2.1 from (by first | (rw [hG]; done) | rfl | done))) rfl))) (consE (congrArg AV.int (show 11 = (Cn.getV (Cn.wordsV b)).2.2 from (by first | (rw [hG]; done) | rfl | done))) rfl))) [] rfl
   ·
    skip
    have h1 := hb1
    have h44 := Cn.g44f hW h1
    refine tri_skip ?_
    refine fin_then ?_
    refine tri_seq ?_
    refine tri_regD hcx [] [5, 6] [2] [602] [((0 : Int) ≤ 2 ∧ 2 ≤ (((Cn.wordsV b).map strOfNums).length : Int)), (((((Cn.wordsV b).map strOfNums).take (((Cn.wordsV b).map strOfNums).length)).drop 2).length ≤ 1000000 ∧ ∀ s ∈ ((((Cn.wordsV b).map strOfNums).take (((Cn.wordsV b).map strOfNums).length)).drop 2), s.size ≤ 1000000000)] [(5, .ints (gNL b)), (6, .bool (Cn.nmB ((((Cn.wordsV b).map strOfNums).take (((Cn.wordsV b).map strOfNums).length)).drop 2)))] [] (by kernel_rfl) ?_ ?_
    ·
     refine (ap ?_ (ap ?_ az))
     all_goals
      first | (constructor <;> omega) | exact ⟨by rw [List.length_drop, List.length_take, hsl]; omega, Cn.str_bd hm1⟩
    refine fin_then ?_
    refine tri_seq ?_
    refine tri_seq ?_
    refine tri_regD hcx [] [53] [5, 2] [602] [] [(53, .bool (!(Cn.nmB ((((Cn.wordsV b).map strOfNums).take (((Cn.wordsV b).map strOfNums).length)).drop 2))))] [] (by kernel_rfl) ?_ ?_
    ·
     exact az
    refine fin_then ?_
    refine tri_cond (b := (!(Cn.nmB ((((Cn.wordsV b).map strOfNums).take (((Cn.wordsV b).map strOfNums).length)).drop 2)))) (by kernel_rfl) (fun hb2 => ?_) (fun hb2 => ?_)
    ·
     skip
     have h2 := hb2
     have hG := Cn.g53t hW h44.1 (Cn.notT h2)
     refine tri_seq ?_
     refine tri_regD hcx [(602, .to 602)] [3] [2] [] [] [(3, .int 11)] [(602, .box [.int 0, .im (.val (.slice none 0 0))])] (by kernel_rfl) ?_ ?_
     ·
      exact az
     refine fin_then ?_
     refine tri_ret ?_
     refine fin_then_ret ?_
     refine fin_rowB 602 1 700 0 (.intss []) (by kernel_rfl) (by kernel_rfl) (by kernel_rfl) (by kernel_rfl) (H' := [(602, .box [.int 0, .row 700])]) (by kernel_rfl) ?_
     refine fin_ren (ρ := [(602, .to 990), (700, .frz)]) (keys := [2, 3]) (E' := [(2, .loc 990 0), (3, .int 11)]) (H' := [(990, .box [.int 0, .intss []])]) (by kernel_rfl) ?_
     exact fin_ret [] rfl rfl trivial hcx (avs := [.agg [.int 0, .intss []], .int 11]) (by kernel_rfl) (congrArg AV.tup (consE (congrArg AV.agg (consE (congrArg AV.int (show 0 = (Cn.getV (Cn.wordsV b)).1 from (by first | (rw [hG]; done) | rfl | done))) (consE (congrArg AV.intss (show [] = (Cn.getV (Cn.wordsV b)).2.1 from (by first | (rw [hG]; done) | rfl | done))) rfl))) (consE (congrArg AV.int (show 11 = (Cn.getV (Cn.wordsV b)).2.2 from (by first | (rw [hG]; done) | rfl | done))) rfl))) [] rfl
    ·
     skip
     have h2 := hb2
     have hnb := Cn.notF h2
     have hbad := Cn.g53f hW h44 hnb
     have hnv : (gNL b) = Cn.numsW (Cn.wordsV b) := Cn.nmV_is hW hnb
     have hnl := Cn.nums_len (Cn.wordsV b)
     have hnvl : (gNL b).length = (Cn.numsW (Cn.wordsV b)).length := congrArg List.length hnv
     have hn2 : 2 ≤ (gNL b).length := by omega
     have hn9 : (gNL b).length ≤ 100000 := by omega
     refine tri_skip ?_
     refine fin_then ?_
     refine tri_seq ?_
     refine tri_seq ?_
     refine tri_regD hcx [] [64] [5, 2] [602] [((0 : Int) ≤ 0 ∧ 0 < ((gNL b).length : Int)), ((!(decide (((gNL b).getD 0 0) > 65536))) = true → ((!(decide (((gNL b).getD 0 0) > 65536))) = true)), ((!(decide (((gNL b).getD 0 0) > 65536))) = true → ((0 : Int) ≤ 1 ∧ 1 < ((gNL b).length : Int))), ((!(decide (((gNL b).getD 0 0) > 65536))) = true → ((!(decide (((gNL b).getD 0 0) > 65536))) = true)), ((!(decide (((gNL b).getD 0 0) > 65536))) = true → ((!(decide (((gNL b).getD 0 0) > 65536))) = true)), ((decide (((gNL b).getD 0 0) > 65536)) = false → (!(decide (((gNL b).getD 0 0) > 65536))) = true)] [(64, .bool ((decide (((gNL b).getD 0 0) > 65536)) || (decide (((gNL b).getD 1 0) > 65536))))] [] (by kernel_rfl) ?_ ?_
     ·
      refine (ap ?_ (ap ?_ (ap ?_ (ap ?_ (ap ?_ (ap (by exact vcNot) az))))))
      all_goals
       first | (constructor <;> omega) | (intro _; constructor <;> omega) | exact id
     refine fin_then ?_
     refine tri_cond (b := ((decide (((gNL b).getD 0 0) > 65536)) || (decide (((gNL b).getD 1 0) > 65536)))) (by kernel_rfl) (fun hb3 => ?_) (fun hb3 => ?_)
     ·
      skip
      have h3 := hb3
      have hN := Cn.or_gt h3
      rw [hnv] at hN
      have hG := Cn.get_big hbad h44.1 hN
      refine tri_seq ?_
      refine tri_regD hcx [(602, .to 602)] [3] [2] [] [] [(3, .int 2)] [(602, .box [.int 0, .im (.val (.slice none 0 0))])] (by kernel_rfl) ?_ ?_
      ·
       exact az
      refine fin_then ?_
      refine tri_ret ?_
      refine fin_then_ret ?_
      refine fin_rowB 602 1 700 0 (.intss []) (by kernel_rfl) (by kernel_rfl) (by kernel_rfl) (by kernel_rfl) (H' := [(602, .box [.int 0, .row 700])]) (by kernel_rfl) ?_
      refine fin_ren (ρ := [(602, .to 990), (700, .frz)]) (keys := [2, 3]) (E' := [(2, .loc 990 0), (3, .int 2)]) (H' := [(990, .box [.int 0, .intss []])]) (by kernel_rfl) ?_
      exact fin_ret [] rfl rfl trivial hcx (avs := [.agg [.int 0, .intss []], .int 2]) (by kernel_rfl) (congrArg AV.tup (consE (congrArg AV.agg (consE (congrArg AV.int (show 0 = (Cn.getV (Cn.wordsV b)).1 from (by first | (rw [hG]; done) | rfl | done))) (consE (congrArg AV.intss (show [] = (Cn.getV (Cn.wordsV b)).2.1 from (by first | (rw [hG]; done) | rfl | done))) rfl))) (consE (congrArg AV.int (show 2 = (Cn.getV (Cn.wordsV b)).2.2 from (by first | (rw [hG]; done) | rfl | done))) rfl))) [] rfl
     ·
      skip
      have h3 := hb3
      have hN := Cn.nor_gt h3
      rw [hnv] at hN
      refine tri_skip ?_
      refine fin_then ?_
      refine tri_seq ?_
      refine tri_regD hcx [(1004, .to 607)] [7] [5, 2] [602] [((0 : Int) ≤ 0 ∧ 0 < ((gNL b).length : Int))] [(7, .loc 607 0)] [(607, .box [.int ((gNL b).getD 0 0), .im (.val (.slice none 0 0))])] (by kernel_rfl) ?_ ?_
      ·
       refine (ap ?_ az)
       (constructor <;> omega)
      refine fin_then ?_
      refine tri_seq ?_
      refine tri_rowB 607 1 701 25 (.intss []) (by kernel_rfl) (by kernel_rfl) (by kernel_rfl) (by kernel_rfl) (H' := [(607, .box [.int ((gNL b).getD 0 0), .row 701]), (602, .box [.int 0, .im (.val (.slice none 0 0))])]) (by kernel_rfl) ?_
      refine tri_regD hcx [] [8] [7, 5, 2] [701, 607, 602] [] [(8, .im (.val (.slice none 0 0)))] [] (by kernel_rfl) ?_ ?_
      ·
       exact az
      refine fin_then ?_
      refine tri_seq ?_
      refine tri_seq ?_
      refine tri_regD hcx [] [9] [8, 7, 5, 2] [701, 607, 602] [] [(9, .int 2)] [] (by kernel_rfl) ?_ ?_
      ·
       exact az
      refine fin_then ?_
      refine tri_block ?_
      refine tri_row 8 700 3 (.ints []) (by kernel_rfl) (by kernel_rfl) (by kernel_rfl) (by kernel_rfl) (E' := [(9, .int 2), (8, .row 700), (7, .loc 607 0), (5, .ints (gNL b)), (2, .loc 602 0)]) (by kernel_rfl) ?_
      refine tri_ren (ρ := [(602, .to 602), (607, .to 607), (700, .to 700), (701, .to 701)]) (keys := [2, 5, 7, 8, 9]) (E' := [(2, .loc 602 0), (5, .ints (gNL b)), (7, .loc 607 0), (8, .row 700), (9, .int 2)]) (H' := [(602, .box [.int 0, .im (.val (.slice none 0 0))]), (607, .box [.int ((gNL b).getD 0 0), .row 701]), (700, .row 3 (.ints [])), (701, .row 25 (.intss []))]) (by kernel_rfl) ?_
      refine tri_loop (X := Nat) (fun x0 => 2 ≤ x0 ∧ x0 ≤ (gNL b).length) (fun x0 => [(2, .loc 602 0), (5, .ints (gNL b)), (7, .loc 607 0), (8, .row 700), (9, .int (x0 : Int))]) (fun x0 => [(602, .box [.int 0, .im (.val (.slice none 0 0))]), (607, .box [.int ((gNL b).getD 0 0), .row 701]), (700, .row 3 (.ints ((Cn.spF (gNL b) x0).1))), (701, .row 25 (.intss ((Cn.spF (gNL b) x0).2)))]) (fun x0 => (gNL b).length - x0) (2) ?_ ?_ ?_ ?_
      ·
       show 2 ≤ 2 ∧ 2 ≤ (gNL b).length
       exact ⟨Nat.le_refl _, by omega⟩
      ·
       exact subE_mk (l := [.loc 602 0, .ints (gNL b), .loc 607 0, .row 700, .int 2]) (m := [.loc 602 0, .ints (gNL b), .loc 607 0, .row 700, .int (2 : Int)]) (by kernel_rfl) (by kernel_rfl) (consE rfl (consE rfl (consE rfl (consE rfl (consE (congrArg AV.int (show 2 = (2 : Int) from (by first | rfl | omega | (simp; done)))) rfl)))))
      ·
       exact Eq.trans (show _ = [(602, .box [.int 0, .im (.val (.slice none 0 0))]), (607, .box [.int ((gNL b).getD 0 0), .row 701]), (700, .row 3 (.ints [])), (701, .row 25 (.intss []))] from by kernel_rfl) (consH rfl (consH (congrArg (fun x => ((607 : Nat), x)) (congrArg AObj.box (consE (congrArg AV.int (show ((gNL b).getD 0 0) = ((gNL b).getD 0 0) from (by first | rfl | omega | (simp; done)))) rfl))) (consH (congrArg (fun x => ((700 : Nat), x)) (congrArg (fun x => AObj.row 3 (.ints x)) (show [] = (Cn.spF (gNL b) 2).1 from (by rw [Cn.spF_2])))) (consH (congrArg (fun x => ((701 : Nat), x)) (congrArg (fun x => AObj.row 25 (.intss x)) (show [] = (Cn.spF (gNL b) 2).2 from (by rw [Cn.spF_2])))) rfl))))
      ·
       intro i hI
       replace hI : 2 ≤ i ∧ i ≤ (gNL b).length := hI
       change Tri _ [(2, .loc 602 0), (5, .ints (gNL b)), (7, .loc 607 0), (8, .row 700), (9, .int (i : Int))] [(602, .box [.int 0, .im (.val (.slice none 0 0))]), (607, .box [.int ((gNL b).getD 0 0), .row 701]), (700, .row 3 (.ints ((Cn.spF (gNL b) i).1))), (701, .row 25 (.intss ((Cn.spF (gNL b) i).2)))] _ _
       obtain ⟨hk2, hk⟩ := hI
       have hsp := Cn.spF_len (gNL b) i hk2 hk
       refine tri_seq ?_
       refine tri_seq ?_
       refine tri_regD hcx [] [73] [2, 5, 7, 8, 9] [602, 607, 700, 701] [] [(73, .bool (decide ((i : Int) < ((gNL b).length : Int))))] [] (by kernel_rfl) ?_ ?_
       ·
        exact az
       refine fin_then ?_
       refine tri_cond (b := (decide ((i : Int) < ((gNL b).length : Int)))) (by kernel_rfl) (fun hb4 => ?_) (fun hb4 => ?_)
       ·
        skip
        have h4 := of_decide_eq_true hb4
        refine tri_skip ?_
        refine fin_then ?_
        refine tri_seq ?_
        refine tri_block ?_
        refine tri_seq ?_
        refine tri_regD hcx [] [80] [2, 5, 7, 8, 9] [602, 607, 700, 701] [((0 : Int) ≤ (i : Int) ∧ (i : Int) < ((gNL b).length : Int))] [(80, .bool (((gNL b).getD i 0) == 0))] [] (by kernel_rfl) ?_ ?_
        ·
         refine (ap ?_ az)
         (constructor <;> omega)
        refine fin_then ?_
        refine tri_cond (b := (((gNL b).getD i 0) == 0)) (by kernel_rfl) (fun hb5 => ?_) (fun hb5 => ?_)
        ·
         skip
         have h5 := eq_of_beq hb5
         have hz := h5
         refine tri_seq ?_
         refine tri_regD hcx [(607, .to 607), (1004, .to 701)] [] [2, 5, 7, 9] [602] [((((Cn.spF (gNL b) i).2).length + [(Cn.spF (gNL b) i).1].length) * 24 ≤ 140737488355328)] [] [(607, .box [.int ((gNL b).getD 0 0), .row 701]), (701, .row 25 (.intss (((Cn.spF (gNL b) i).2) ++ [(Cn.spF (gNL b) i).1])))] (by kernel_rfl) ?_ ?_
         ·
          refine (ap ?_ az)
          (simp only [List.length_cons, List.length_nil, List.length_append, List.length_map, List.length_set, List.length_replicate]; omega)
         refine fin_then ?_
         refine tri_regD hcx [] [8] [2, 5, 7, 9] [607, 701, 602] [] [(8, .im (.val (.slice none 0 0)))] [] (by kernel_rfl) ?_ ?_
         ·
          exact az
         refine fin_block ?_
         refine fin_then ?_
         refine tri_regD hcx [] [9] [8, 2, 5, 7] [607, 701, 602] [Fit ((i : Int) + 1)] [(9, .int ((i : Int) + 1))] [] (by kernel_rfl) ?_ ?_
         ·
          refine (ap ?_ az)
          (constructor <;> omega)
         refine fin_row 8 700 3 (.ints []) (by kernel_rfl) (by kernel_rfl) (by kernel_rfl) (by kernel_rfl) (E' := [(9, .int ((i : Int) + 1)), (8, .row 700), (2, .loc 602 0), (5, .ints (gNL b)), (7, .loc 607 0)]) (by kernel_rfl) ?_
         refine fin_ren (ρ := [(602, .to 602), (607, .to 607), (700, .to 700), (701, .to 701)]) (keys := [2, 5, 7, 8, 9]) (E' := [(2, .loc 602 0), (5, .ints (gNL b)), (7, .loc 607 0), (8, .row 700), (9, .int ((i : Int) + 1))]) (H' := [(602, .box [.int 0, .im (.val (.slice none 0 0))]), (607, .box [.int ((gNL b).getD 0 0), .row 701]), (700, .row 3 (.ints [])), (701, .row 25 (.intss (((Cn.spF (gNL b) i).2) ++ [(Cn.spF (gNL b) i).1])))]) (by kernel_rfl) ?_
         refine fin_round (i + 1) ?_ ?_ ?_ ?_
         ·
          show 2 ≤ (i + 1) ∧ (i + 1) ≤ (gNL b).length
          exact ⟨by omega, by omega⟩
         ·
          show (gNL b).length - (i + 1) < (gNL b).length - i
          omega
         ·
          exact subE_mk (l := [.loc 602 0, .ints (gNL b), .loc 607 0, .row 700, .int ((i : Int) + 1)]) (m := [.loc 602 0, .ints (gNL b), .loc 607 0, .row 700, .int ((i + 1) : Int)]) (by kernel_rfl) (by kernel_rfl) (consE rfl (consE rfl (consE rfl (consE rfl (consE (congrArg AV.int (show ((i : Int) + 1) = ((i + 1) : Int) from (by first | rfl | omega | (simp; done)))) rfl)))))
         ·
          exact Eq.trans (show _ = [(602, .box [.int 0, .im (.val (.slice none 0 0))]), (607, .box [.int ((gNL b).getD 0 0), .row 701]), (700, .row 3 (.ints [])), (701, .row 25 (.intss (((Cn.spF (gNL b) i).2) ++ [(Cn.spF (gNL b) i).1])))] from by kernel_rfl) (consH rfl (consH rfl (consH (congrArg (fun x => ((700 : Nat), x)) (congrArg (fun x => AObj.row 3 (.ints x)) (show [] = (Cn.spF (gNL b) (i + 1)).1 from (by first | (rw [Cn.spF_0 (by omega) (by omega) hz]; done) | (rw [Cn.spF_1 (by omega) (by omega) hz]; done))))) (consH (congrArg (fun x => ((701 : Nat), x)) (congrArg (fun x => AObj.row 25 (.intss x)) (show (((Cn.spF (gNL b) i).2) ++ [(Cn.spF (gNL b) i).1]) = (Cn.spF (gNL b) (i + 1)).2 from (by first | (rw [Cn.spF_0 (by omega) (by omega) hz]; done) | (rw [Cn.spF_1 (by omega) (by omega) hz]; done))))) rfl))))
        ·
         skip
         have h5 := neB hb5
         have hz := h5
         refine tri_regD hcx [(1006, .to 700)] [8] [2, 5, 7, 9] [602, 607, 701] [((0 : Int) ≤ (i : Int) ∧ (i : Int) < ((gNL b).length : Int)), ((((Cn.spF (gNL b) i).1).length + [((gNL b).getD i 0)].length) * 8 ≤ 140737488355328)] [(8, .row 700)] [(700, .row 3 (.ints (((Cn.spF (gNL b) i).1) ++ [((gNL b).getD i 0)])))] (by kernel_rfl) ?_ ?_
         ·
          refine (ap ?_ (ap ?_ az))
          all_goals
           first | (constructor <;> omega) | (simp only [List.length_cons, List.length_nil, List.length_append, List.length_map, List.length_set, List.length_replicate]; omega)
         refine fin_block ?_
         refine fin_then ?_
         refine tri_regD hcx [] [9] [8, 2, 5, 7] [700, 602, 607, 701] [Fit ((i : Int) + 1)] [(9, .int ((i : Int) + 1))] [] (by kernel_rfl) ?_ ?_
         ·
          refine (ap ?_ az)
          (constructor <;> omega)
         refine fin_ren (ρ := [(602, .to 602), (607, .to 607), (700, .to 700), (701, .to 701)]) (keys := [2, 5, 7, 8, 9]) (E' := [(2, .loc 602 0), (5, .ints (gNL b)), (7, .loc 607 0), (8, .row 700), (9, .int ((i : Int) + 1))]) (H' := [(602, .box [.int 0, .im (.val (.slice none 0 0))]), (607, .box [.int ((gNL b).getD 0 0), .row 701]), (700, .row 3 (.ints (((Cn.spF (gNL b) i).1) ++ [((gNL b).getD i 0)]))), (701, .row 25 (.intss ((Cn.spF (gNL b) i).2)))]) (by kernel_rfl) ?_
         refine fin_round (i + 1) ?_ ?_ ?_ ?_
         ·
          show 2 ≤ (i + 1) ∧ (i + 1) ≤ (gNL b).length
          exact ⟨by omega, by omega⟩
         ·
          show (gNL b).length - (i + 1) < (gNL b).length - i
          omega
         ·
          exact subE_mk (l := [.loc 602 0, .ints (gNL b), .loc 607 0, .row 700, .int ((i : Int) + 1)]) (m := [.loc 602 0, .ints (gNL b), .loc 607 0, .row 700, .int ((i + 1) : Int)]) (by kernel_rfl) (by kernel_rfl) (consE rfl (consE rfl (consE rfl (consE rfl (consE (congrArg AV.int (show ((i : Int) + 1) = ((i + 1) : Int) from (by first | rfl | omega | (simp; done)))) rfl)))))
         ·
          exact Eq.trans (show _ = [(602, .box [.int 0, .im (.val (.slice none 0 0))]), (607, .box [.int ((gNL b).getD 0 0), .row 701]), (700, .row 3 (.ints (((Cn.spF (gNL b) i).1) ++ [((gNL b).getD i 0)]))), (701, .row 25 (.intss ((Cn.spF (gNL b) i).2)))] from by kernel_rfl) (consH rfl (consH rfl (consH (congrArg (fun x => ((700 : Nat), x)) (congrArg (fun x => AObj.row 3 (.ints x)) (show (((Cn.spF (gNL b) i).1) ++ [((gNL b).getD i 0)]) = (Cn.spF (gNL b) (i + 1)).1 from (by first | (rw [Cn.spF_0 (by omega) (by omega) hz]; done) | (rw [Cn.spF_1 (by omega) (by omega) hz]; done))))) (consH (congrArg (fun x => ((701 : Nat), x)) (congrArg (fun x => AObj.row 25 (.intss x)) (show (Cn.spF (gNL b) i).2 = (Cn.spF (gNL b) (i + 1)).2 from (by first | (rw [Cn.spF_0 (by omega) (by omega) hz]; done) | (rw [Cn.spF_1 (by omega) (by omega) hz]; done))))) rfl))))
       ·
        skip
        have h4 := of_decide_eq_false hb4
        refine tri_exit ?_
        refine fin_then_exit ?_
        refine fin_then_exit ?_
        refine fin_block_same ?_
        refine fin_then ?_
        refine tri_seq ?_
        refine tri_seq ?_
        refine tri_ren (ρ := [(602, .to 602), (607, .to 607), (700, .frz), (701, .frz)]) (keys := [73, 2, 5, 7, 8, 9]) (E' := [(73, .bool (decide ((i : Int) < ((gNL b).length : Int)))), (2, .loc 602 0), (5, .ints (gNL b)), (7, .loc 607 0), (8, .ints ((Cn.spF (gNL b) i).1)), (9, .int (i : Int))]) (H' := [(602, .box [.int 0, .im (.val (.slice none 0 0))]), (607, .box [.int ((gNL b).getD 0 0), .intss ((Cn.spF (gNL b) i).2)])]) (by kernel_rfl) ?_
        refine tri_drawD [0, 1, 3, 7, 15, 31, 63, 15, 143, 399, 1023, 2047] hcx hmx [] [105] [2, 7] [602, 607] [((!(decide ((((Cn.spF (gNL b) i).1).length : Int) > 0))) = true → ((!(decide ((((Cn.spF (gNL b) i).1).length : Int) > 0))) = true)), ((!(decide ((((Cn.spF (gNL b) i).1).length : Int) > 0))) = true → ((!(decide ((((Cn.spF (gNL b) i).1).length : Int) > 0))) = true)), ((!(decide ((((Cn.spF (gNL b) i).1).length : Int) > 0))) = true → ((!(decide ((((Cn.spF (gNL b) i).1).length : Int) > 0))) = true)), ((!(decide ((((Cn.spF (gNL b) i).1).length : Int) > 0))) = true → ((0 : Int) ≤ 1 ∧ 1 < ((gNL b).length : Int))), ((!(decide ((((Cn.spF (gNL b) i).1).length : Int) > 0))) = true → ((!(decide ((((Cn.spF (gNL b) i).1).length : Int) > 0))) = true)), ((!(decide ((((Cn.spF (gNL b) i).1).length : Int) > 0))) = true → ((!(decide ((((Cn.spF (gNL b) i).1).length : Int) > 0))) = true)), ((!(decide ((((Cn.spF (gNL b) i).1).length : Int) > 0))) = true → ((!(decide ((((Cn.spF (gNL b) i).1).length : Int) > 0))) = true)), ((decide ((((Cn.spF (gNL b) i).1).length : Int) > 0)) = false → (!(decide ((((Cn.spF (gNL b) i).1).length : Int) > 0))) = true)] [(105, .bool ((decide ((((Cn.spF (gNL b) i).1).length : Int) > 0)) || ((((Cn.spF (gNL b) i).2).length : Int) != ((gNL b).getD 1 0))))] [] (by kernel_rfl) ?_ ?_
        ·
         refine (ap ?_ (ap ?_ (ap ?_ (ap ?_ (ap ?_ (ap ?_ (ap ?_ (ap (by exact vcNot) az))))))))
         all_goals
          first | (intro _; constructor <;> omega) | exact id
        refine fin_then ?_
        refine tri_cond (b := ((decide ((((Cn.spF (gNL b) i).1).length : Int) > 0)) || ((((Cn.spF (gNL b) i).2).length : Int) != ((gNL b).getD 1 0)))) (by kernel_rfl) (fun hb6 => ?_) (fun hb6 => ?_)
        ·
         skip
         have h6 := hb6
         have hG := Cn.g105t hbad h44.1 hN hnv (by omega) h6
         refine tri_seq ?_
         refine tri_regD hcx [(602, .to 602)] [3] [2] [] [] [(3, .int 11)] [(602, .box [.int 0, .im (.val (.slice none 0 0))])] (by kernel_rfl) ?_ ?_
         ·
          exact az
         refine fin_then ?_
         refine tri_ret ?_
         refine fin_then_ret ?_
         refine fin_rowB 602 1 700 0 (.intss []) (by kernel_rfl) (by kernel_rfl) (by kernel_rfl) (by kernel_rfl) (H' := [(602, .box [.int 0, .row 700])]) (by kernel_rfl) ?_
         refine fin_ren (ρ := [(602, .to 990), (700, .frz)]) (keys := [2, 3]) (E' := [(2, .loc 990 0), (3, .int 11)]) (H' := [(990, .box [.int 0, .intss []])]) (by kernel_rfl) ?_
         exact fin_ret [] rfl rfl trivial hcx (avs := [.agg [.int 0, .intss []], .int 11]) (by kernel_rfl) (congrArg AV.tup (consE (congrArg AV.agg (consE (congrArg AV.int (show 0 = (Cn.getV (Cn.wordsV b)).1 from (by first | (rw [hG]; done) | rfl | done))) (consE (congrArg AV.intss (show [] = (Cn.getV (Cn.wordsV b)).2.1 from (by first | (rw [hG]; done) | rfl | done))) rfl))) (consE (congrArg AV.int (show 11 = (Cn.getV (Cn.wordsV b)).2.2 from (by first | (rw [hG]; done) | rfl | done))) rfl))) [] rfl
        ·
         skip
         have h6 := hb6
         have h105 := Cn.g105f h6
         refine tri_skip ?_
         refine fin_then ?_
         refine tri_seq ?_
         refine tri_seq ?_
         refine tri_regD hcx [] [109] [2, 7] [602, 607] [(((Cn.spF (gNL b) i).2).length ≤ maxLen ∧ ∀ l ∈ ((Cn.spF (gNL b) i).2), l.length ≤ maxLen)] [(109, .bool ((Cn.chkV ((gNL b).getD 0 0) ((Cn.spF (gNL b) i).2)) != 0))] [] (by kernel_rfl) ?_ ?_
         ·
          refine (ap ?_ az)
          exact Cn.g_chk ⟨by omega, fun l hl => by have := hsp.2 l hl; omega⟩
         refine fin_then ?_
         refine tri_cond (b := ((Cn.chkV ((gNL b).getD 0 0) ((Cn.spF (gNL b) i).2)) != 0)) (by kernel_rfl) (fun hb7 => ?_) (fun hb7 => ?_)
         ·
          skip
          have h7 := hb7
          have hG := Cn.g109t hbad h44.1 hN hnv (by omega) h105 (by simpa using h7)
          refine tri_seq ?_
          refine tri_regD hcx [(602, .to 602)] [3] [2] [] [(((Cn.spF (gNL b) i).2).length ≤ maxLen ∧ ∀ l ∈ ((Cn.spF (gNL b) i).2), l.length ≤ maxLen)] [(3, .int (Cn.chkV ((gNL b).getD 0 0) ((Cn.spF (gNL b) i).2)))] [(602, .box [.int 0, .im (.val (.slice none 0 0))])] (by kernel_rfl) ?_ ?_
          ·
           refine (ap ?_ az)
           exact Cn.g_chk ⟨by omega, fun l hl => by have := hsp.2 l hl; omega⟩
          refine fin_then ?_
          refine tri_ret ?_
          refine fin_then_ret ?_
          refine fin_rowB 602 1 700 0 (.intss []) (by kernel_rfl) (by kernel_rfl) (by kernel_rfl) (by kernel_rfl) (H' := [(602, .box [.int 0, .row 700])]) (by kernel_rfl) ?_
          refine fin_ren (ρ := [(602, .to 990), (700, .frz)]) (keys := [2, 3]) (E' := [(2, .loc 990 0), (3, .int (Cn.chkV ((gNL b).getD 0 0) ((Cn.spF (gNL b) i).2)))]) (H' := [(990, .box [.int 0, .intss []])]) (by kernel_rfl) ?_
          exact fin_ret [] rfl rfl trivial hcx (avs := [.agg [.int 0, .intss []], .int (Cn.chkV ((gNL b).getD 0 0) ((Cn.spF (gNL b) i).2))]) (by kernel_rfl) (congrArg AV.tup (consE (congrArg AV.agg (consE (congrArg AV.int (show 0 = (Cn.getV (Cn.wordsV b)).1 from (by first | (rw [hG]; done) | rfl | done))) (consE (congrArg AV.intss (show [] = (Cn.getV (Cn.wordsV b)).2.1 from (by first | (rw [hG]; done) | rfl | done))) rfl))) (consE (congrArg AV.int (show (Cn.chkV ((gNL b).getD 0 0) ((Cn.spF (gNL b) i).2)) = (Cn.getV (Cn.wordsV b)).2.2 from (by first | (rw [hG]; done) | rfl | done))) rfl))) [] rfl
         ·
          skip
          have h7 := hb7
          have hG := Cn.g109f hbad h44.1 hN hnv (by omega) h105 (by simpa using h7)
          refine tri_skip ?_
          refine fin_then ?_
          refine tri_seq ?_
          refine tri_regD hcx [(602, .to 602)] [3] [2] [] [] [(3, .int 0)] [(602, .box [.int ((gNL b).getD 0 0), .intss ((Cn.spF (gNL b) i).2)])] (by kernel_rfl) ?_ ?_
          ·
           exact az
          refine fin_then ?_
          refine tri_ret ?_
          exact fin_ret [] rfl rfl trivial hcx (avs := [.agg [.int ((gNL b).getD 0 0), .intss ((Cn.spF (gNL b) i).2)], .int 0]) (by kernel_rfl) (congrArg AV.tup (consE (congrArg AV.agg (consE (congrArg AV.int (show ((gNL b).getD 0 0) = (Cn.getV (Cn.wordsV b)).1 from (by first | (rw [hG]; done) | rfl | done))) (consE (congrArg AV.intss (show (Cn.spF (gNL b) i).2 = (Cn.getV (Cn.wordsV b)).2.1 from (by first | (rw [hG]; done) | rfl | done))) rfl))) (consE (congrArg AV.int (show 0 = (Cn.getV (Cn.wordsV b)).2.2 from (by first | (rw [hG]; done) | rfl | done))) rfl))) [] rfl
 ·
  cases hσ
end Go.Proofs.YtiokflebeojokaaGreatDoor.En
