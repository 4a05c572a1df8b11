/- Contracts of Force's two steps and of fold at lists. -/
import Derived.Test.YtibfgeoiemmjoaaLin9
import Derived.Test.YtibfgeoiemmjoaaLinP4
namespace Go.Proofs.Ytibfgeoiemmjoaa
open Go.RowKit Go.Shelf

theorem zeroI (w : World) : (zeroValue 3).run Try.prog w = .ok (I64 0) w := by kernel_rfl
def ofK (x : Int) : Int := if x = -9223372036854775808 then x else (x.natAbs : Int)
theorem of_all (x : Int) (w : World) (h1 : -9223372036854775808 ≤ x) (h2 : x ≤ 9223372036854775807) : Calls Try.prog 37 #[I64 x] w fun e w' => e = .returned (I64 (ofK x)) ∧ w = w' := by
  by_cases hm : x = -9223372036854775808
  · have HR := Lib.hid (show ofK x = x by rw [ofK, if_pos hm])
    have hw : IntKind.i64.wrap (-x) = x := by rw [hm]; decide
    have hw2 : wrap64 (-x) = x := by unfold wrap64; omega
    clear hm
    go_enter Try.func37, Try.ntmps37
    go_wp2
    go_ret
    exact ⟨by rw [HR.out]; simp, rfl⟩
  · have HK := Lib.hid (show ofK x = (x.natAbs : Int) by rw [ofK, if_neg hm])
    by_cases h : 0 < x
    · have HR := Lib.hid (show (x.natAbs : Int) = x by omega)
      clear hm
      go_enter Try.func37, Try.ntmps37
      go_wp2
      go_ret
      exact ⟨by rw [HK.out, HR.out]; exact ret_eq (by omega), rfl⟩
    · have HR := Lib.hid (show (x.natAbs : Int) = -x by omega)
      have h3 : -9223372036854775807 ≤ x := by omega
      clear hm
      go_enter Try.func37, Try.ntmps37
      go_wp2
      all_goals
        go_ret
        exact ⟨by rw [HK.out, HR.out]; exact ret_eq (by omega), rfl⟩

set_option maxRecDepth 100000 in
set_option maxHeartbeats 1600000 in
theorem force1_any (n c x : Int) (g m : Nat) (ls : List Int) (w : World) (hg : w.cell? ⟨g, 0, none⟩ = some (.map (some m))) (hm : MapI w m (isM ls)) (hgd : Good ls ls.length) (hx : x ≠ 0)
    (hx1 : -65536 ≤ x) (hx2 : x ≤ 65536) (hn1 : -1000000000000000000 ≤ n) (hn2 : n ≤ 1000000000000000000) (hc1 : -1000000000000000000 ≤ c) (hc2 : c ≤ 1000000000000000000) :
    Calls Try.prog 53 #[I64 n, I64 c, I64 x, .pointer (some ⟨g, 0, none⟩)] w fun e w' => e = .returned (I64 (if ls.contains (-x) then n else n + c)) ∧ ∃ q, w' = w.drewN q := by
  have HLF := Lib.hid (fun W => of_any x W (by omega) (by omega))
  have hlk := fun k => run_look (P := Try.prog) 69 3 3 (I64 0) Try.underlying69 Try.underlying3 zeroI (show MapI (w.drewN k) m _ from hm.kp ((Kp.refl (fun _ => False) w).drewN k) (fun h => h)) (x.natAbs : Int)
  simp only [isM_at hgd] at hlk
  have hwx : IntKind.i64.wrap (-x) = -x := IntWalk.i64_in _ (by omega)
  have hiff := litOf_neg hgd hx
  generalize litOf ls x = y at hlk hiff
  generalize (x.natAbs : Int) = v at HLF hlk
  cases hc : ls.contains (-x) with
  | true =>
    have hy : y = -x := hiff.2 hc
    subst hy
    clear hiff hc hm hgd
    go_enter Try.func53, Try.ntmps53
    go_wp2_with fail
    go_quiet (first | (refine (HLF.out _).mono ?_; rintro e w1 ⟨rfl, rfl⟩; exact ⟨rfl, _, rfl⟩))
    all_goals
      go_wp2_with fail
      go_ret
      exact ⟨rfl, _, rfl⟩
  | false =>
    have hy : (y == -x) = false := by
      cases hb : (y == -x) with
      | false => rfl
      | true => rw [hiff.1 (by simpa using hb)] at hc; cases hc
    clear hiff hc hm hgd
    go_enter Try.func53, Try.ntmps53
    go_wp2_with fail
    go_quiet (first | (refine (HLF.out _).mono ?_; rintro e w1 ⟨rfl, rfl⟩; exact ⟨rfl, _, rfl⟩))
    all_goals
      go_wp2_with fail
      go_ret
      exact ⟨rfl, _, rfl⟩

/-- which literals Force adds -/
def pickQ (ls : List Int) (sp : Int) (q : Int × Int) : Bool := (!ls.contains q.2 && !ls.contains (-q.2)) && decide (sp < q.1)
set_option maxRecDepth 100000 in
set_option maxHeartbeats 1600000 in
theorem force2_any (c x sp : Int) (g m g2 : Nat) (ls : List Int) (A : Option Addr) (n cA : Nat) (acc : List Int) (wo w : World) (hg : w.cell? ⟨g, 0, none⟩ = some (.map (some m))) (hg2 : w.cell? ⟨g2, 0, none⟩ = some (I64 sp)) (hm : MapI w m (isM ls)) (hgd : Good ls ls.length) (hx : x ≠ 0)
    (hx1 : -65536 ≤ x) (hx2 : x ≤ 65536) (hlen : acc.length = n) (hn : n ≤ 1000000) (ho : Own w 3 (.slice A n cA) (acc.map I64)) (hB : ∀ k, (Value.slice A n cA).ownBlock = some k → wo.heap.size ≤ k) (hbel : Below wo.heap.size wo w) :
    Calls Try.prog 55 #[.slice A n cA, I64 c, I64 x, .pointer (some ⟨g, 0, none⟩), .pointer (some ⟨g2, 0, none⟩)] w fun e w' => ∃ A' c', e = .returned (.slice A' (acc ++ if pickQ ls sp (c, x) then [x] else []).length c') ∧
      Own w' 3 (.slice A' (acc ++ if pickQ ls sp (c, x) then [x] else []).length c') ((acc ++ if pickQ ls sp (c, x) then [x] else []).map I64) ∧ (∀ k, (Value.slice A' (acc ++ if pickQ ls sp (c, x) then [x] else []).length c').ownBlock = some k → wo.heap.size ≤ k) ∧ Below wo.heap.size wo w' := by
  obtain ⟨i0, hi, hz0, hz1, hz2⟩ := info_parts info_int
  have HI := Lib.hid (And.intro hi (And.intro hz0 (And.intro hz1 hz2)))
  clear hi hz0 hz1 hz2
  have HLF := Lib.hid (fun W => of_any x W (by omega) (by omega))
  have hlk := fun k => run_look (P := Try.prog) 69 3 3 (I64 0) Try.underlying69 Try.underlying3 zeroI (show MapI (w.drewN k) m _ from hm.kp ((Kp.refl (fun _ => False) w).drewN k) (fun h => h)) (x.natAbs : Int)
  simp only [isM_at hgd] at hlk
  have hwx : IntKind.i64.wrap (-x) = -x := IntWalk.i64_in _ (by omega)
  have hiff := litOf_zero (ls := ls) hx
  have HO := Lib.hid ho
  have HBk := Lib.hid hB
  have HBel := Lib.hid hbel
  have HL := Lib.hid (show (acc.map I64).length = n by simpa using hlen)
  have HLn := Lib.hid hlen
  clear ho hB hbel hlen
  generalize litOf ls x = y at hlk hiff
  generalize (x.natAbs : Int) = v at HLF hlk
  cases hc : (!ls.contains x && !ls.contains (-x)) with
  | false =>
    have hy : (y == 0) = false := by
      cases hb : (y == 0) with
      | false => rfl
      | true => rw [hiff.1 (by simpa using hb)] at hc; cases hc
    have HP := Lib.hid (show (acc ++ if pickQ ls sp (c, x) = true then [x] else []) = acc by rw [pickQ, hc]; simp)
    rw [HP.out, HLn.out]
    clear hiff hc hm hgd HP
    go_enter Try.func55, Try.ntmps55
    go_wp2_with fail
    go_quiet (first | (refine (HLF.out _).mono ?_; rintro e w1 ⟨rfl, rfl⟩; exact ⟨rfl, _, rfl⟩))
    all_goals
      go_wp2_with fail
      go_ret
      exact ⟨A, cA, rfl, HO.out.drewN _, HBk.out, below_n HBel.out _⟩
  | true =>
    have hy : y = 0 := hiff.2 hc
    subst hy
    by_cases hs : sp < c
    · have hsd : decide (sp < c) = true := by simpa using hs
      have HP := Lib.hid (show (acc ++ if pickQ ls sp (c, x) = true then [x] else []) = acc ++ [x] by rw [pickQ, hc, hsd]; rfl)
      rw [HP.out, List.length_append, HLn.out, List.length_singleton]
      clear hiff hc hm hgd HP
      go_enter Try.func55, Try.ntmps55
      go_wp2_with fail
      go_quiet (first | (refine (HLF.out _).mono ?_; rintro e w1 ⟨rfl, rfl⟩; exact ⟨rfl, _, rfl⟩))
      all_goals
        go_wp2_with (at_builtin; refine wpList_push _ rfl _ _ 22 rfl 3 i0 (.int .i64 0) 8 Try.underlying22 HI.out.1 HI.out.2.1 HI.out.2.2.1 HI.out.2.2.2 rfl _ (acc.map I64) n HL.out rfl ((HO.out.drewN nq).alloc _) ⟨w.heap.size, 0, none⟩ 1 (I64 x) rfl ?c1 rfl ?c2 ?c3 ?_)
        case c1 => exact (Blk.new (w.drewN nq) 3 #[I64 x]).cell 0
        case c2 => unfold maxLen; omega
        case c3 => omega
        intro g1 off cap w1 hown1 hg1 hat
        have HO1 := Lib.hid (show Own w1 3 (.slice (some ⟨g1, off, none⟩) (n + 1) cap) ((acc ++ [x]).map I64) from by simpa using hown1)
        have HG1 := Lib.hid (show ∀ k, (Value.slice (some ⟨g1, off, none⟩) (n + 1) cap).ownBlock = some k → wo.heap.size ≤ k from fun k hk => by
          have e : g1 = k := by simpa [Value.ownBlock] using hk
          subst e
          rcases hat with h | h
          · exact HBk.out _ h
          · have := HBel.out.size; rw [h]; simp; omega)
        have HB1 := Lib.hid (((below_n HBel.out nq).alloc HBel.out.size _).grown hg1 (by have := HBel.out.size; simp; omega) (fun k e => HBk.out k e))
        clear hown1 hg1 hat
        go_wp2_with fail
        go_ret
        exact ⟨some ⟨g1, off, none⟩, cap, rfl, HO1.out, HG1.out, HB1.out⟩
    · have hsd : decide (sp < c) = false := by simpa using hs
      have HP := Lib.hid (show (acc ++ if pickQ ls sp (c, x) = true then [x] else []) = acc by rw [pickQ, hc, hsd]; simp)
      rw [HP.out, HLn.out]
      clear hiff hc hm hgd HP
      go_enter Try.func55, Try.ntmps55
      go_wp2_with fail
      go_quiet (first | (refine (HLF.out _).mono ?_; rintro e w1 ⟨rfl, rfl⟩; exact ⟨rfl, _, rfl⟩))
      all_goals
        go_wp2_with fail
        go_ret
        exact ⟨A, cA, rfl, HO.out.drewN _, HBk.out, below_n HBel.out _⟩

def accP (pk : Int × Int → Bool) (z : List (Int × Int)) : List Int := (z.filter pk).map (·.2)
theorem accP_snoc (pk : Int × Int → Bool) (C L : List Int) (k : Nat) (h1 : k < C.length) (h2 : k < L.length) : accP pk ((C.zip L).take (k + 1)) = accP pk ((C.zip L).take k) ++ if pk (C[k], L[k]) then [L[k]] else [] := by
  have hz : k < (C.zip L).length := by rw [List.length_zip]; omega
  unfold accP
  rw [List.take_succ_eq_append_getElem hz, List.getElem_zip, List.filter_append, List.map_append]
  by_cases hp : pk (C[k], L[k]) = true
  · simp [hp]
  · simp [hp]
theorem accP_len (pk : Int × Int → Bool) (z : List (Int × Int)) : (accP pk z).length ≤ z.length := by unfold accP; rw [List.length_map]; exact List.length_filter_le _ _
def StepsL (f : Nat) (lb : List Value) (pk : Int × Int → Bool) (l : LinV) (w : World) : Prop :=
  ∀ wb, Below w.heap.size w wb → ∀ (k : Nat) (h1 : k < l.C.length) (h2 : k < l.L.length) A' c' wx, Below wb.heap.size wb wx → Own wx 3 (.slice A' (accP pk ((l.C.zip l.L).take k)).length c') ((accP pk ((l.C.zip l.L).take k)).map I64) →
    (∀ g, (Value.slice A' (accP pk ((l.C.zip l.L).take k)).length c').ownBlock = some g → wb.heap.size ≤ g) →
    Calls Try.prog f (Value.slice A' (accP pk ((l.C.zip l.L).take k)).length c' :: I64 l.C[k] :: I64 l.L[k] :: lb).toArray wx fun e w' => ∃ A'' c'', e = .returned (.slice A'' (accP pk ((l.C.zip l.L).take (k + 1))).length c'') ∧
      Own w' 3 (.slice A'' (accP pk ((l.C.zip l.L).take (k + 1))).length c'') ((accP pk ((l.C.zip l.L).take (k + 1))).map I64) ∧ (∀ g, (Value.slice A'' (accP pk ((l.C.zip l.L).take (k + 1))).length c'').ownBlock = some g → wb.heap.size ≤ g) ∧ Below wb.heap.size wb w'
set_option maxHeartbeats 1600000 in
theorem foldL_any (f : Nat) (lb : List Value) (pk : Int × Int → Bool) (A L : Option Addr) (cA cL : Nat) (l : LinV) (w : World) (heg : ∀ (args : Array Value) (w : World), (callFunc f args).run Try.prog w = .ok (.enter f args) w)
    (hs : StepsL f lb pk l w) (h : LinAt w A L l) (hlen : l.C.length = l.L.length) :
    Calls Try.prog 54 #[linV A L cA cL l, .slice none 0 0, .func (.func f) #[] lb.toArray] w fun e w' => ∃ A' c', e = .returned (.slice A' (accP pk (l.C.zip l.L)).length c') ∧
      Own w' 3 (.slice A' (accP pk (l.C.zip l.L)).length c') ((accP pk (l.C.zip l.L)).map I64) ∧ (∀ g, (Value.slice A' (accP pk (l.C.zip l.L)).length c').ownBlock = some g → w.heap.size ≤ g) ∧ Below w.heap.size w w' := by
  obtain ⟨hrc, hrl, hlc, hll⟩ := h
  have HRC := Lib.hid hrc
  have HRL := Lib.hid hrl
  have HS := Lib.hid hs
  have hle1 : l.C.length ≤ l.L.length := by omega
  have hle2 : l.L.length ≤ l.C.length := by omega
  unfold maxLen at hlc hll
  clear hrc hrl hs hlen
  go_enter Try.func54, Try.ntmps54
  go_wp2_with fail
  have HBw := Lib.hid (below1 w (Obj.cells #[Value.slice A l.C.length cA, Value.slice L l.L.length cL, I64 l.B] 24))
  have HD1 := Lib.hid (Blk.new w 24 #[Value.slice A l.C.length cA, Value.slice L l.L.length cL, I64 l.B])
  generalize hw1 : w.alloc (Obj.cells #[Value.slice A l.C.length cA, Value.slice L l.L.length cL, I64 l.B] 24) = w1 at HBw HD1 ⊢
  clear hw1
  go_loopw [1, 7, 8, 12] (fun av _ _ iv wr => ∃ (i : Nat) (A' : Option Addr) (c' : Nat), iv = .int .i64 i ∧ i ≤ l.L.length ∧ av = .slice A' (accP pk ((l.C.zip l.L).take i)).length c' ∧ Own wr 3 (.slice A' (accP pk ((l.C.zip l.L).take i)).length c') ((accP pk ((l.C.zip l.L).take i)).map I64) ∧ (∀ g, (Value.slice A' (accP pk ((l.C.zip l.L).take i)).length c').ownBlock = some g → w1.heap.size ≤ g) ∧ Below w1.heap.size w1 wr) (fun _ _ _ iv _ => l.L.length - (intOf iv).toNat)
  case atStart => exact ⟨0, none, 0, rfl, Nat.zero_le _, rfl, Own.nil _ _, fun g h => (by cases h), Below.refl _ _⟩
  case round =>
    obtain ⟨i, A', c', rfl, hi, rfl, ho, hg, hbel⟩ := hrel
    have HO := Lib.hid ho
    have HG := Lib.hid hg
    have HBel := Lib.hid hbel
    clear ho hg hbel
    by_cases hlt : i < l.L.length
    · have hlt2 : i < l.C.length := by omega
      have hb2 := below_up HBw.out HBel.out
      obtain ⟨ab, ao, eA, _, ca⟩ := (HRC.out.up hb2).at_ hlt2
      obtain ⟨bb, bo, eL, _, cb⟩ := (HRL.out.up hb2).at_ hlt
      have hst := HS.out w1 HBw.out i hlt2 hlt A' c' wr HBel.out HO.out HG.out
      have c0 : wr.cell? ⟨w.heap.size, 0, none⟩ = some (.slice A l.C.length cA) := (HD1.out.up HBel.out).cell 0
      subst eA eL
      generalize l.C[i] = c at ca hst
      generalize l.L[i] = x at cb hst
      generalize (accP pk ((l.C.zip l.L).take i)).length = n0 at hst
      have HSt := Lib.hid hst
      clear hst hb2
      go_wp2_with fail
      refine HSt.out.mono ?_
      rintro e w3 ⟨A3, c3, rfl, o3, g3, b3⟩
      have O3 := Lib.hid (And.intro o3 (And.intro g3 b3))
      clear o3 g3 b3
      go_wp2_with fail
      go_roundw
      case rel => exact ⟨i + 1, A3, c3, by go_num, by omega, rfl, O3.out.1, O3.out.2.1, O3.out.2.2⟩
      case measure => simp [intOf]; omega
    · obtain rfl : i = l.L.length := by omega
      have HT := Lib.hid (show (l.C.zip l.L).take l.L.length = l.C.zip l.L from List.take_of_length_le (by rw [List.length_zip]; omega))
      rw [HT.out] at HO HG ⊢
      go_wp2_with fail
      go_ret
      exact ⟨A', c', rfl, HO.out, fun g hg => Nat.le_trans HBw.out.size (HG.out g hg), below_up HBw.out HBel.out⟩
end Go.Proofs.Ytibfgeoiemmjoaa
