/- Lemmas and contracts for the row. -/
import Derived.Test.YtbpbndlgfiammaaGreatDoorPkRowProofTidyV
import Derived.Test.YtbpbndlgfiammaaGreatDoorPkRowProofTidyI
import Derived.Test.YtbpbndlgfiammaaGreatDoorPkRowProofTidyC
import Derived.Test.YtbpbndlgfiammaaGreatDoorPkRowProofTidyJ
import Derived.Test.YtbpbndlgfiammaaGreatDoorPkRowProofTidyP
import Derived.Test.YtbpbndlgfiammaaGreatDoorPkRowProofTidyT
import Derived.Lib.RowBridge
import Derived.Shelf.SlSortCmp.NoneTotal
import Derived.Test.YtbpbndlgfiammaaGreatDoorPkRowProofTidyW
import Derived.Test.YtbpbndlgfiammaaGreatDoorPkRowProofTidyY
set_option linter.unusedVariables false
set_option linter.unusedSimpArgs false
set_option linter.unnecessarySimpa false
namespace Go.Proofs.YtbpbndlgfiammaaGreatDoor
open Go Go.RowKit Go.Sort Go.Shelf
open Cn (ahd sortL)
theorem one_i64 : OneCell I64 := fun _ => rfl
def PredIn (f : Nat) (lb : List Value) (p : Int → Bool) (G : Nat → Prop) (w : World) : Prop :=
  ∀ (W : World) (x : Int), (∀ b, G b → W.heap[b]? = w.heap[b]?) → Calls Tryz.prog f (I64 x :: lb).toArray W fun e w' => e = .returned (.bool (p x)) ∧ W = w'
theorem ifnone_x (A : Option Addr) (c : Nat) (fv : Value) (w : World) : Calls Tryz.prog 92 #[.slice A 0 c, fv] w fun e w' => e = .returned (I64 (-1)) ∧ w = w' := by
  go_enter Tryz.func92, Tryz.ntmps92
  go_wp2_with fail
  refine wp_loop_rounds 1 ?_
  rw [rounds_succ]
  go_wp2_with fail
  go_ret
  exact ⟨rfl, rfl⟩
theorem delnone_x (A : Option Addr) (c : Nat) (fv : Value) (w : World) : Calls Tryz.prog 70 #[.slice A 0 c, fv] w fun e w' => e = .returned (.slice A 0 c) ∧ w = w' := by
  go_enter Tryz.func70, Tryz.ntmps70
  go_wp2_with fail
  refine (ifnone_x A c fv w).mono ?_
  rintro e w1 ⟨rfl, rfl⟩
  go_wp2_with fail
  go_ret
  exact ⟨rfl, rfl⟩
theorem del_own {f : Nat} {lb : List Value} {p : Int → Bool} {G : Nat → Prop} {v : Value} {xs : List Int} {w : World} (heg : ∀ (args : Array Value) (w : World), (callFunc f args).run Tryz.prog w = .ok (.enter f args) w)
    (hG : ∀ b, G b → b < w.heap.size) (hv : ∀ b, v.ownBlock = some b → ¬ G b) (hp : PredIn f lb p G w) (ho : Own w 3 v (xs.map I64)) (hl : xs.length ≤ maxLen) :
    Calls Tryz.prog 70 #[v, .func (.func f) #[] lb.toArray] w fun e w' => ∃ v', e = .returned v' ∧ Turned 3 w v ((xs.filter fun x => !p x).map I64) w' v' := by
  obtain ⟨A, cap, hform, _⟩ := ho.form
  rw [List.length_map] at hform
  subst hform
  by_cases h0 : xs.length = 0
  · obtain rfl := List.eq_nil_of_length_eq_zero h0
    refine (delnone_x A cap _ w).mono ?_
    rintro e w' ⟨rfl, rfl⟩
    exact ⟨_, rfl, ho, grown_refl _ _, fun _ h => h⟩
  · obtain ⟨g, off, rfl⟩ := ho.addr (by omega)
    obtain ⟨cur, h1, h2, h3, h4, _⟩ := ho.cur rfl
    rw [List.length_map] at h2
    have hng : ¬ G g := hv g rfl
    have hcall : ∀ (W : World) (x : Int), (∀ b, G b → W.heap[b]? = w.heap[b]?) → FnGives Tryz.prog f lb.toArray #[I64 x] (.bool (p x)) W := fun W x hW => by
      unfold FnGives
      have e : #[I64 x] ++ lb.toArray = (I64 x :: lb).toArray := by simp
      rw [e]
      refine (hp W x hW).mono ?_
      rintro e w' ⟨rfl, rfl⟩
      exact ⟨rfl, 0, rfl⟩
    have h := AnyE.slices_DeleteFunc Tryz.shDelete I64 one_i64 p f lb.toArray heg 0 (fun w => Tryz.zeroValue3 w) g off cap xs.toArray w
      (fun W x hb => hcall W x fun b hb' => hb.block b (hG b hb')) (fun n os dk x _ => hcall _ x fun b hb' => (sort_kp n dk os).block b (hG b hb') (fun e => hng (e ▸ hb')))
      (own_holds ho) (by simp; unfold maxLen at hl; omega) (by simpa using h2)
    simp only [List.size_toArray, List.toList_toArray] at h
    refine Calls.mono h ?_
    rintro e w' ⟨rfl, q, rfl⟩
    have hfl : (xs.filter fun x => !p x).length ≤ xs.length := List.length_filter_le _ _
    rw [put_sort]
    refine ⟨_, rfl, ?_, kp_grown (sort_kp _ _ _), fun b h => h⟩
    have := sort_own ho q #[] (ys := (xs.filter fun x => !p x) ++ List.replicate (xs.length - (xs.filter fun x => !p x).length) 0) (by simp; omega) (m := (xs.filter fun x => !p x).length) (by simp)
    rw [List.take_left'] at this
    · exact this
    · rfl
abbrev Lit := { x : Int // Cn.mayP x 65536 = true }
instance : Inhabited Lit := ⟨⟨1, by decide⟩⟩
def encLit (x : Lit) : Value := I64 x.1
theorem one_lit : OneCell encLit := fun _ => rfl
theorem cmpL_lt (x y : Int) : decide (cmpL x y < 0) = ahd x y := by
  unfold cmpL cmpI ahd
  rw [decide_eq_decide]
  split <;> rename_i h <;> (repeat' split) <;> first | omega | (constructor <;> intro _ <;> omega) | skip
theorem may_bd {x : Int} (h : Cn.mayP x 65536 = true) : x ≠ 0 ∧ -65536 ≤ x ∧ x ≤ 65536 := by
  simp [Cn.mayP] at h
  omega
theorem swo_lit : SWO (ltOf fun (x y : Lit) => cmpL x.1 y.1) := by
  refine ⟨fun x => ?_, fun x y z => ?_, fun x y z => ?_⟩ <;> simp only [ltOf, cmpL_lt, ahd, decide_eq_true_eq, decide_eq_false_iff_not] <;> omega
theorem sortf_own {v : Value} {xs : List Int} {w : World} (hm : ∀ x ∈ xs, Cn.mayP x 65536 = true) (ho : Own w 3 v (xs.map I64)) (hl : xs.length ≤ 1000000000000) :
    Calls Tryz.prog 95 #[v, .func (.func 96) #[] #[]] w fun e w' => e = .returned (.tuple #[]) ∧ Own w' 3 v ((sortL xs).map I64) ∧ Kp (fun b => v.ownBlock = some b) w w' := by
  obtain ⟨A, cap, hform, _⟩ := ho.form
  rw [List.length_map] at hform
  subst hform
  by_cases h0 : xs.length = 0
  · obtain rfl := List.eq_nil_of_length_eq_zero h0
    refine (AnyF.slices_SortFunc_none (P := Tryz.prog) (ρ := Tryz.shSortF_ren) { Tryz.shSortF with } A cap _ w).mono ?_
    rintro e w' ⟨rfl, rfl⟩
    exact ⟨rfl, by simpa [sortL] using ho, Kp.refl _ _⟩
  · obtain ⟨g, off, rfl⟩ := ho.addr (by omega)
    have hlt : g < w.heap.size := ho.lt rfl
    let ls : List Lit := xs.pmap Subtype.mk hm
    have hls : ls.map (fun x : Lit => x.1) = xs := by simp [ls, List.map_pmap]
    have hle : ls.length = xs.length := by simp [ls]
    have hen : ls.map encLit = xs.map I64 := by rw [← hls, List.map_map]; rfl
    have hol : Own w 3 (.slice (some ⟨g, off, none⟩) xs.length cap) (ls.map encLit) := by rw [hen]; exact ho
    have hcmp : CmpLays1 Tryz.prog 96 #[] encLit (fun (x y : Lit) => cmpL x.1 y.1) g off ls.toArray.size w := fun m os dk _ x y => by
      have hx := may_bd x.2
      have hy := may_bd y.2
      refine (norm2_x x.1 y.1 _ hx.2.1 hx.2.2 hy.2.1 hy.2.2).mono ?_
      rintro e w' ⟨rfl, os', rfl⟩
      exact ⟨rfl, 0, os', rfl⟩
    have h := Any.slices_SortFunc_total Tryz.shSortF encLit one_lit (fun (x y : Lit) => cmpL x.1 y.1) swo_lit 96 #[] g off cap ls.toArray w (En.run_enters Tryz.func96 (by kernel_rfl) rfl) hcmp (own_holds hol) hlt (by simp [hle]; omega)
      (fun x y h1 h2 => by
        simp only [ltOf, cmpL_lt, ahd, decide_eq_false_iff_not] at h1 h2
        exact Subtype.ext (by omega))
    simp only [List.size_toArray, List.toList_toArray, hle] at h
    refine Calls.mono h ?_
    rintro e w' ⟨rfl, n, os, rfl⟩
    refine ⟨rfl, ?_, (sort_kp _ _ _).mono fun k _ h => by subst h; rfl⟩
    have h2 := sort_own hol n os (ys := ls.mergeSort fun x y => !(ltOf fun (x y : Lit) => cmpL x.1 y.1) y x) (by simp) (m := xs.length) (by simp [hle])
    rw [List.take_of_length_le (by simp [hle])] at h2
    have h3 : (ls.mergeSort fun x y => !(ltOf fun (x y : Lit) => cmpL x.1 y.1) y x).map encLit = (sortL xs).map I64 := by
      have := List.map_mergeSort (r := fun x y => !(ltOf fun (x y : Lit) => cmpL x.1 y.1) y x) (s := fun x y => !ahd y x) (f := fun x : Lit => x.1) (l := ls) (fun a _ b _ => by simp only [ltOf, cmpL_lt])
      rw [hls] at this
      unfold sortL
      rw [← this, List.map_map]
      rfl
    rw [h3] at h2
    exact h2
end Go.Proofs.YtbpbndlgfiammaaGreatDoor
namespace Go.Proofs.YtbpbndlgfiammaaGreatDoor.En
open Go Go.RowKit
def sDel1 : CtF := fun args os => match args, os with
  | [.row 0, .clo 94 []], [.row 3 (.ints xs)] => some (xs.length ≤ 1000000000000, .row 1, [none, some (.row 3 (.ints (xs.filter fun x => Cn.mayP x 65536)))])
  | _, _ => none
def sDel2 : CtF := fun args os => match args, os with
  | [.row 0, .clo 72 [.pto [.val (.int .i64 y)]]], [.row 3 (.ints xs)] => some (xs.length ≤ 1000000000000, .row 1, [none, some (.row 3 (.ints (xs.filter fun x => !(x == y))))])
  | _, _ => none
def sSortF : CtF := fun args os => match args, os with
  | [.row 0, .clo 96 []], [.row 3 (.ints xs)] => some (xs.length ≤ 1000000000000 ∧ ∀ x ∈ xs, Cn.mayP x 65536 = true, .tup [], [some (.row 3 (.ints (Cn.sortL xs)))])
  | _, _ => none
theorem sDel1_sound : Sound Tryz.prog 70 sDel1 := by
  refine sound_row (e := 3) (run_enters Tryz.func70 (by kernel_rfl) rfl) fun args os p r outs h => ?_
  unfold sDel1 at h
  split at h
  · rename_i xs
    injection h with h
    injection h with h1 h
    injection h with h2 h3
    subst h1 h2 h3
    refine ⟨_, .ints xs, _, rfl, rfl, rfl, rfl, rfl, rfl, rfl, fun hp => ⟨?_, fun W G v vs hG hn _ ho hl hd => ?_⟩⟩
    · have := List.length_filter_le (fun x => Cn.mayP x 65536) xs
      show (xs.filter _).length ≤ maxLen
      unfold maxLen; omega
    · simp only [DenL, Den] at hd
      obtain ⟨v1, vs', rfl, ⟨lb, hv1, rfl⟩, rfl⟩ := hd
      rw [cloV_1 (by kernel_rfl)] at hv1
      subst hv1
      have := del_own (f := 94) (lb := []) (p := fun x => !Cn.mayP x 65536) (G := G) (v := v) (xs := xs) (w := W) (run_enters Tryz.func94 (by kernel_rfl) rfl) hG hn (fun W x _ => norm1_x x W) ho hl
      refine this.mono fun e' W' h => turned_out ?_
      simp only [Bool.not_not] at h
      exact h
  · cases h
theorem sDel2_sound : Sound Tryz.prog 70 sDel2 := by
  refine sound_row (e := 3) (run_enters Tryz.func70 (by kernel_rfl) rfl) fun args os p r outs h => ?_
  unfold sDel2 at h
  split at h
  · rename_i y xs
    injection h with h
    injection h with h1 h
    injection h with h2 h3
    subst h1 h2 h3
    refine ⟨_, .ints xs, _, rfl, rfl, rfl, rfl, rfl, rfl, rfl, fun hp => ⟨?_, fun W G v vs hG hn _ ho hl hd => ?_⟩⟩
    · have := List.length_filter_le (fun x => !(x == y)) xs
      show (xs.filter _).length ≤ maxLen
      unfold maxLen; omega
    · simp only [DenL, Den] at hd
      obtain ⟨v1, vs', rfl, ⟨lb, hv1, u, lb', rfl, ⟨b, off, rfl, hb, hc⟩, rfl⟩, rfl⟩ := hd
      rw [cloV_1 (by kernel_rfl)] at hv1
      subst hv1
      obtain ⟨u, hcu, hru⟩ := hc 0 (.val (.int .i64 y)) rfl
      have hu : u = I64 y := den_val (g := g0 W G) (by simp only [Den]; exact hru)
      subst hu
      have := del_own (f := 72) (lb := [.pointer (some ⟨b, off, none⟩)]) (p := fun x => x == y) (G := G) (v := v) (xs := xs) (w := W) (run_enters Tryz.func72 (by kernel_rfl) rfl) hG hn
        (fun W1 x hW => res11_x b off y x W1 ((World.cell?_of_block (a := ⟨b, off, none⟩) (hW b hb)).trans hcu)) ho hl
      exact this.mono fun e' W' h => turned_out h
  · cases h
theorem sSortF_sound : Sound Tryz.prog 95 sSortF := by
  refine sound_inrow (e := 3) (run_enters Tryz.func95 (by kernel_rfl) rfl) fun args os p r outs h => ?_
  unfold sSortF at h
  split at h
  · rename_i xs
    injection h with h
    injection h with h1 h
    injection h with h2 h3
    subst h1 h2 h3
    refine ⟨_, .ints xs, _, _, rfl, rfl, rfl, rfl, rfl, rfl, rfl, rfl, fun hp => ⟨?_, ?_, fun W G v vs hG hn _ ho hl hd => ?_⟩⟩
    · show (Cn.sortL xs).length ≤ maxLen
      simp only [Cn.sortL, List.length_mergeSort]
      unfold maxLen; omega
    · show (Cn.sortL xs).length = xs.length
      simp only [Cn.sortL, List.length_mergeSort]
    · simp only [DenL, Den] at hd
      obtain ⟨v1, vs', rfl, ⟨lb, hv1, rfl⟩, rfl⟩ := hd
      rw [cloV_1 (by kernel_rfl)] at hv1
      subst hv1
      exact sortf_own hp.2 ho hp.1
  · cases h
end Go.Proofs.YtbpbndlgfiammaaGreatDoor.En
namespace Go.Proofs.YtbpbndlgfiammaaGreatDoor.En
open Go Go.RowKit
def tyCnfT : List (Nat × TD) := [(3, ⟨1, false, [.int .i64 0], [], none, 8, false, 1, 1⟩),
  (22, ⟨1, false, [.slice none 0 0], [], some 23, 24, false, 0, 0⟩),
  (23, ⟨1, false, [.slice none 0 0], [], some 3, 24, false, 0, 3⟩),
  (66, ⟨1, false, [.nilFunc], [], none, 8, false, 0, 0⟩),
  (117, ⟨1, false, [.nilFunc], [], none, 8, false, 0, 0⟩)]
theorem tyCnfT_ok : AllTy Tryz.prog tyCnfT := ⟨⟨by kernel_rfl, by kernel_rfl, by kernel_rfl⟩, ⟨by kernel_rfl, by kernel_rfl, by kernel_rfl⟩, ⟨by kernel_rfl, by kernel_rfl, by kernel_rfl⟩, ⟨by kernel_rfl, by kernel_rfl, by kernel_rfl⟩, ⟨by kernel_rfl, by kernel_rfl, by kernel_rfl⟩, trivial⟩
def cx_cNorm : Cx := ⟨tyCnfT, [(71, sClone), (70, (orF sDel1 sDel2)), (95, sSortF), (99, sCompact)], false⟩
theorem cx_cNorm_ok : CxOk Tryz.prog cx_cNorm := cx_ok tyCnfT_ok ⟨sClone_sound, (sDel1_sound.or sDel2_sound), sSortF_sound, sCompact_sound, trivial⟩
def cNorm_σ : CtF
  | [.im (.ls (.ints l))], [] => some (l.length ≤ 1000000, .tup [.row 0, .bool (Cn.tautL l)], [some (.row 3 (.ints (Cn.normL l)))])
  | _, _ => none
theorem cNorm_sound : Sound Tryz.prog 66 cNorm_σ := by
 refine Sw (cx := cx_cNorm) Tryz.f66 Tryz.func66 ?_
 intro wW wO wβ G0 args os p r outs hσ hp
 have hcx := cx_cNorm_ok
 have hmx : Tryz.prog.follows .mixedOrders = true := by kernel_rfl
 unfold cNorm_σ at hσ
 split at hσ
 ·
  rename_i l
  cases hσ
  refine ⟨by kernel_rfl, ?_⟩
  have hf := List.length_filter_le (fun x => Cn.mayP x 65536) l
  have hs : (Cn.sortL (l.filter fun x => Cn.mayP x 65536)).length = (l.filter fun x => Cn.mayP x 65536).length := List.length_mergeSort ..
  have hnl : (Lib.compact (Cn.sortL (l.filter fun x => Cn.mayP x 65536))).length ≤ l.length := Cn.norm_len l
  have hnb : ∀ j, j < (Lib.compact (Cn.sortL (l.filter fun x => Cn.mayP x 65536))).length → -65536 ≤ (Lib.compact (Cn.sortL (l.filter fun x => Cn.mayP x 65536))).getD j 0 ∧ (Lib.compact (Cn.sortL (l.filter fun x => Cn.mayP x 65536))).getD j 0 ≤ 65536 := fun j hj => Cn.norm_bd (l := l) hj
  refine Sz hcx [] [] [] [] (Sq hcx [(1002, .to 208)] [4] [0] [] [(l.length ≤ 1000000000000), (l.length ≤ 1000000000000)] ?_ (Sq hcx [(208, .to 208)] [] [] [] [((l.filter fun z9 => Cn.mayP z9 65536).length ≤ 1000000000000 ∧ ∀ z9 ∈ (l.filter fun z9 => Cn.mayP z9 65536), Cn.mayP z9 65536 = true)] ?_ (Sq hcx [(1001, .to 208)] [4] [] [208] [((Cn.sortL (l.filter fun z9 => Cn.mayP z9 65536)).length ≤ 1000000000000)] ?_ (Zs (Sz hcx [] [14, 15] [] [] (Zb (Lp (X := Nat) (fun x0 => x0 ≤ (Lib.compact (Cn.sortL (l.filter fun x => Cn.mayP x 65536))).length ∧ ∀ j, 0 < j → j < x0 → (Lib.compact (Cn.sortL (l.filter fun x => Cn.mayP x 65536))).getD (j - 1) 0 ≠ -((Lib.compact (Cn.sortL (l.filter fun x => Cn.mayP x 65536))).getD j 0)) (fun x0 => ([(4, .row 208), (14, .int ((Lib.compact (Cn.sortL (l.filter fun z9 => Cn.mayP z9 65536))).length : Int)), (15, .int (x0 : Int))], [(208, .row 3 (.ints (Lib.compact (Cn.sortL (l.filter fun z9 => Cn.mayP z9 65536)))))])) (fun x0 => (Lib.compact (Cn.sortL (l.filter fun x => Cn.mayP x 65536))).length - x0) (0) ?_ (Ex 15 (congrArg AV.int (show 0 = (0 : Int) from (by first | rfl | omega | (simp; done)))) Eb) Hb fun k hI => ?_)))))))
  ·
   refine ap ?_ (ap ?_ az) <;>
    first | omega | exact id | exact vcNot | exact vcG | exact vcH | (intro _; omega) | exact (fun _ h => h) | (intro h; simp at h; omega) | (simp only [List.length_cons, List.length_nil, List.length_append, List.length_map, List.length_set, List.length_replicate]; omega) | (intro h; simp [h]; done) | exact ⟨by omega, fun x hx => (List.mem_filter.1 hx).2⟩ | exact (fun _ => by have := hbk (by omega); constructor <;> omega)
  ·
   refine ap ?_ az
   first | omega | exact id | exact vcNot | exact vcG | exact vcH | (intro _; omega) | exact (fun _ h => h) | (intro h; simp at h; omega) | (simp only [List.length_cons, List.length_nil, List.length_append, List.length_map, List.length_set, List.length_replicate]; omega) | (intro h; simp [h]; done) | exact ⟨by omega, fun x hx => (List.mem_filter.1 hx).2⟩ | exact (fun _ => by have := hbk (by omega); constructor <;> omega)
  ·
   refine ap ?_ az
   first | omega | exact id | exact vcNot | exact vcG | exact vcH | (intro _; omega) | exact (fun _ h => h) | (intro h; simp at h; omega) | (simp only [List.length_cons, List.length_nil, List.length_append, List.length_map, List.length_set, List.length_replicate]; omega) | (intro h; simp [h]; done) | exact ⟨by omega, fun x hx => (List.mem_filter.1 hx).2⟩ | exact (fun _ => by have := hbk (by omega); constructor <;> omega)
  ·
   exact ⟨Nat.zero_le _, fun j _ hj => by omega⟩
  ·
   try dsimp only at hI
   obtain ⟨hk, hok⟩ := hI
   have hbk : k < (Lib.compact (Cn.sortL (l.filter fun x => Cn.mayP x 65536))).length → _ := hnb k
   refine Sz hcx [] [16] [] [] (Zs (Zj (p := ((k : Int) < ((Lib.compact (Cn.sortL (l.filter fun z9 => Cn.mayP z9 65536))).length : Int))) (fun h0 => ?_) fun h0 => ?_))
   ·
    refine Zk (Ft (Zs (Zb (Sz hcx [] [5] [16] [] (Sd hcx hmx [0, 1, 3, 7, 7, 23, 63, 127, 7, 7, 775, 1799, 3847, 8191, 16383] [] [32] [5] [] [((decide ((k : Int) > 0)) = true → ((decide ((k : Int) > 0)) = true)), ((decide ((k : Int) > 0)) = true → Fit ((k : Int) - 1)), ((decide ((k : Int) > 0)) = true → ((decide ((k : Int) > 0)) = true)), ((decide ((k : Int) > 0)) = true → ((decide ((k : Int) > 0)) = true)), ((decide ((k : Int) > 0)) = true → ((0 : Int) ≤ ((k : Int) - 1) ∧ ((k : Int) - 1) < ((Lib.compact (Cn.sortL (l.filter fun z9 => Cn.mayP z9 65536))).length : Int))), ((decide ((k : Int) > 0)) = true → ((decide ((k : Int) > 0)) = true)), ((decide ((k : Int) > 0)) = true → ((((k : Int) - 1).toNat) < (Lib.compact (Cn.sortL (l.filter fun z9 => Cn.mayP z9 65536))).length)), ((decide ((k : Int) > 0)) = true → ((decide ((k : Int) > 0)) = true)), ((decide ((k : Int) > 0)) = true → ((decide ((k : Int) > 0)) = true)), ((decide ((k : Int) > 0)) = true → ((0 : Int) ≤ (k : Int) ∧ (k : Int) < ((Lib.compact (Cn.sortL (l.filter fun z9 => Cn.mayP z9 65536))).length : Int))), ((decide ((k : Int) > 0)) = true → ((decide ((k : Int) > 0)) = true)), ((decide ((k : Int) > 0)) = true → (k < (Lib.compact (Cn.sortL (l.filter fun z9 => Cn.mayP z9 65536))).length)), ((decide ((k : Int) > 0)) = true → ((decide ((k : Int) > 0)) = true)), ((decide ((k : Int) > 0)) = true → Fit (-((Lib.compact (Cn.sortL (l.filter fun z9 => Cn.mayP z9 65536))).getD k 0))), ((decide ((k : Int) > 0)) = true → ((decide ((k : Int) > 0)) = true)), ((decide ((k : Int) > 0)) = true → ((decide ((k : Int) > 0)) = true)), ((decide ((k : Int) > 0)) = true → (decide ((k : Int) > 0)) = true)] ?_ (Zi (b := (decide ((k : Int) > 0)) && (((Lib.compact (Cn.sortL (l.filter fun z9 => Cn.mayP z9 65536))).getD (((k : Int) - 1).toNat) 0) == (-((Lib.compact (Cn.sortL (l.filter fun z9 => Cn.mayP z9 65536))).getD k 0)))) (fun h1 => ?_) fun h1 => ?_))))))
    ·
     refine ap ?_ (ap ?_ (ap ?_ (ap ?_ (ap ?_ (ap ?_ (ap ?_ (ap ?_ (ap ?_ (ap ?_ (ap ?_ (ap ?_ (ap ?_ (ap ?_ (ap ?_ (ap ?_ (ap (by exact id) az)))))))))))))))) <;>
      first | omega | exact id | exact vcNot | exact vcG | exact vcH | (intro _; omega) | exact (fun _ h => h) | (intro h; simp at h; omega) | (simp only [List.length_cons, List.length_nil, List.length_append, List.length_map, List.length_set, List.length_replicate]; omega) | (intro h; simp [h]; done) | exact ⟨by omega, fun x hx => (List.mem_filter.1 hx).2⟩ | exact (fun _ => by have := hbk (by omega); constructor <;> omega)
    ·
     try simp only [Bool.or_eq_true, Bool.or_eq_false_iff, Bool.and_eq_true, Bool.and_eq_false_iff, Bool.not_eq_true', Bool.not_eq_false', decide_eq_true_eq, decide_eq_false_iff_not, bne_iff_ne, bne_eq_false_iff_eq, beq_iff_eq, beq_eq_false_iff_ne] at h1
     have hq := h1
     rw [show ((k : Int) - 1).toNat = k - 1 by omega] at hq
     exact Sz hcx [] [2, 3] [32, 4, 14, 15] [] (Zr (Fk (Fr (Fr (Fk (Fr (Fn [(208, .to 0)] [2, 3] (Rv hcx (congrArg AV.tup (consE rfl (consE (congrArg AV.bool (show true = (Cn.tautL l) from (by exact (Cn.taut_adj_yes (xs := Cn.normL l) (i := k) (by omega) (show k < (Lib.compact (Cn.sortL (l.filter fun x => Cn.mayP x 65536))).length by omega) hq.2).symm))) rfl))) [true] (consO (congrArg some (congrArg (fun x => AObj.row 3 (.ints x)) (show (Lib.compact (Cn.sortL (l.filter fun z9 => Cn.mayP z9 65536))) = (Cn.normL l) from (by first | rfl | (simp; done))))) rfl)))))))))
    ·
     try simp only [Bool.or_eq_true, Bool.or_eq_false_iff, Bool.and_eq_true, Bool.and_eq_false_iff, Bool.not_eq_true', Bool.not_eq_false', decide_eq_true_eq, decide_eq_false_iff_not, bne_iff_ne, bne_eq_false_iff_eq, beq_iff_eq, beq_eq_false_iff_ne] at h1
     have hq := h1
     refine Zk (Fb (Ft (Tq hcx [] [15] [32] [] [Fit ((k : Int) + 1)] ?_ (Lr (k + 1) ?_ ?_ (Ex 15 (congrArg AV.int (show ((k : Int) + 1) = ((k + 1) : Int) from (by first | rfl | omega | (simp; done)))) Eb) Hb))))
     ·
      refine ap ?_ az
      first | omega | exact id | exact vcNot | exact vcG | exact vcH | (intro _; omega) | exact (fun _ h => h) | (intro h; simp at h; omega) | (simp only [List.length_cons, List.length_nil, List.length_append, List.length_map, List.length_set, List.length_replicate]; omega) | (intro h; simp [h]; done) | exact ⟨by omega, fun x hx => (List.mem_filter.1 hx).2⟩ | exact (fun _ => by have := hbk (by omega); constructor <;> omega)
     ·
      try dsimp only
      (refine ⟨by omega, fun j hj0 hj => ?_⟩; by_cases hjk : j = k; (subst hjk; rcases hq with hq | hq; (exact absurd hj0 (by omega)); (rwa [show ((j : Int) - 1).toNat = j - 1 by omega] at hq)); exact hok j hj0 (by omega))
     ·
      try dsimp only
      omega
   ·
    exact Ze (Fe (Fe (Fs (Ft (Sz hcx [] [2, 3] [16, 4, 14, 15] [] (Zr (Fn [(208, .to 0)] [2, 3] (Rv hcx (congrArg AV.tup (consE rfl (consE (congrArg AV.bool (show false = (Cn.tautL l) from (by exact (Cn.taut_adj_no (xs := Cn.normL l) (Cn.norm_str l) (fun x hx => Cn.norm_nz hx) (fun i hi0 hi => hok i hi0 (by have : i < (Lib.compact (Cn.sortL (l.filter fun x => Cn.mayP x 65536))).length := hi; omega))).symm))) rfl))) [true] (consO (congrArg some (congrArg (fun x => AObj.row 3 (.ints x)) (show (Lib.compact (Cn.sortL (l.filter fun z9 => Cn.mayP z9 65536))) = (Cn.normL l) from (by first | rfl | (simp; done))))) rfl)))))))))
 ·
  cases hσ
end Go.Proofs.YtbpbndlgfiammaaGreatDoor.En
