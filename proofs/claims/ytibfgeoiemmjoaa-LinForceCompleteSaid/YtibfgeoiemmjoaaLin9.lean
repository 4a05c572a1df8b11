/- Contract of Add. (The walk of its drawn region is printed by kreg.py.) -/
import Derived.Test.YtibfgeoiemmjoaaLin8
import Derived.Deep.CutBlock
namespace Go.Proofs.Ytibfgeoiemmjoaa
open Go.RowKit Go.Shelf

def OwnAt (B : Nat) (W : World) (A : Option Addr) (c : Nat) (xs : List Int) : Prop := Own W 3 (.slice A xs.length c) (xs.map I64) ∧ ∀ g, (Value.slice A xs.length c).ownBlock = some g → B ≤ g
theorem OwnAt.up {B : Nat} {W W' : World} {A : Option Addr} {c : Nat} {xs : List Int} (h : OwnAt B W A c xs) (hb : Below W.heap.size W W') : OwnAt B W' A c xs := ⟨h.1.keep fun g hg => hb.block g (h.1.lt hg), h.2⟩
theorem Blk.up {W W' : World} {g : Nat} {t : TypeId} {cs : Array Value} (h : Blk W g t cs) (hb : Below W.heap.size W W') : Blk W' g t cs := (hb.block _ h.lt).trans h
theorem rdn2 {W : World} {A B : Option Addr} {xs ys : List Int} (ha : Rd I64 (· < W.heap.size) W A xs) (hb : Rd I64 (· < W.heap.size) W B ys) (c d : Nat) (t : TypeId) :
    RdN (· < (W.alloc (.cells #[.slice A xs.length c, .slice B ys.length d] t)).heap.size) (W.alloc (.cells #[.slice A xs.length c, .slice B ys.length d] t)) (some ⟨W.heap.size, 0, none⟩) [xs, ys] := by
  have hn := Blk.new W t #[.slice A xs.length c, .slice B ys.length d]
  have hu := below1 W (.cells #[.slice A xs.length c, .slice B ys.length d] t)
  intro i hi
  match i, hi with
  | 0, _ => exact ⟨W.heap.size, 0, A, c, rfl, hn.lt, hn.cell 0, ha.up hu⟩
  | 1, _ => exact ⟨W.heap.size, 0, B, d, rfl, hn.lt, hn.cell 1, hb.up hu⟩
  | n + 2, h => exact absurd h (by simp)
theorem concat2_any (S : Option Addr) (cS : Nat) (xs ys : List Int) (w : World) (h : RdN (· < w.heap.size) w S [xs, ys]) (hs : xs.length + ys.length ≤ 1000000) :
    Calls Try.prog 58 #[.slice S 2 cS] w fun e w' => ∃ A c, e = .returned (.slice A (xs ++ ys).length c) ∧ OwnAt w.heap.size w' A c (xs ++ ys) ∧ Below w.heap.size w w' := by
  have hf : [xs, ys].flatten = xs ++ ys := by simp
  refine (concat_any S cS [xs, ys] w h (by simp) (by simpa [lens] using hs)).mono ?_
  rintro e w' ⟨A, c, rfl, h1, h2, h3⟩
  rw [hf] at h1 h2 ⊢
  exact ⟨A, c, rfl, ⟨h1, h2⟩, h3⟩
/-- what Add's drawn region leaves: the sum in a variable of its own -/
def AddR (a b : LinV) (w1 : World) (n : Nat) (wx : World) : Prop := ∃ A c A' c', OwnAt w1.heap.size wx A c (a.C ++ b.C) ∧ OwnAt w1.heap.size wx A' c' (a.L ++ b.L) ∧
  (∀ g, (Value.slice A (a.C ++ b.C).length c).ownBlock = some g → (Value.slice A' (a.L ++ b.L).length c').ownBlock ≠ some g) ∧
  Blk wx n 24 #[.slice A (a.C ++ b.C).length c, .slice A' (a.L ++ b.L).length c', I64 (a.B + b.B)] ∧ Below w1.heap.size w1 wx ∧ w1.heap.size ≤ n
theorem AddR.mk {a b : LinV} {w1 W : World} {n : Nat} {A A' : Option Addr} {c c' : Nat} (hx : OwnAt w1.heap.size W A c (a.C ++ b.C)) (hy : OwnAt w1.heap.size W A' c' (a.L ++ b.L))
    (hap : ∀ g, (Value.slice A (a.C ++ b.C).length c).ownBlock = some g → (Value.slice A' (a.L ++ b.L).length c').ownBlock = some g → False) (ht : Blk W n 24 #[.slice none 0 0, .slice none 0 0, I64 0]) (hk : Below w1.heap.size w1 W) (hn : w1.heap.size ≤ n) :
    AddR a b w1 n (((W.setCell ⟨n, 0, none⟩ (.slice A (a.C ++ b.C).length c)).setCell ⟨n, 1, none⟩ (.slice A' (a.L ++ b.L).length c')).setCell ⟨n, 2, none⟩ (I64 (a.B + b.B))) :=
  ⟨A, c, A', c', ⟨hx.1.set3 (hx.1.ne_blk ht (by decide)) _ _ _, hx.2⟩, ⟨hy.1.set3 (hy.1.ne_blk ht (by decide)) _ _ _, hy.2⟩, fun g h1 h2 => hap g h1 h2, blkSet3 ht _ _ _, belowSet3 hk hn _ _ _, hn⟩
def AddPost (a b : LinV) (w : World) (e : Ending) (w' : World) : Prop := CutPost (addP a b) w e w'

set_option maxRecDepth 100000 in
set_option maxHeartbeats 1600000 in
theorem add_any (A L A' L' : Option Addr) (cA cL cA' cL' : Nat) (a b : LinV) (w : World) (ha : LinAt w A L a) (hb : LinAt w A' L' b) :
    Calls Try.prog 25 #[linV A L cA cL a, linV A' L' cA' cL' b] w (CutPost (addP a b) w) := by
  have HA := Lib.hid ha
  have HB := Lib.hid hb
  clear ha hb
  have HBw := Lib.hid (below3 w (Obj.cells #[Value.slice A a.C.length cA, Value.slice L a.L.length cL, I64 a.B] 24) (Obj.cells #[Value.slice A' b.C.length cA', Value.slice L' b.L.length cL', I64 b.B] 24) (Obj.cells #[.slice none 0 0, .slice none 0 0, I64 0] 24))
  have HD1 := Lib.hid (((Blk.new w 24 #[Value.slice A a.C.length cA, Value.slice L a.L.length cL, I64 a.B]).alloc (Obj.cells #[Value.slice A' b.C.length cA', Value.slice L' b.L.length cL', I64 b.B] 24)).alloc (Obj.cells #[.slice none 0 0, .slice none 0 0, I64 0] 24))
  have HD2 := Lib.hid ((blk2 w (Obj.cells #[Value.slice A a.C.length cA, Value.slice L a.L.length cL, I64 a.B] 24) 24 #[Value.slice A' b.C.length cA', Value.slice L' b.L.length cL', I64 b.B]).alloc (Obj.cells #[.slice none 0 0, .slice none 0 0, I64 0] 24))
  have HD3 := Lib.hid (blk3 w (Obj.cells #[Value.slice A a.C.length cA, Value.slice L a.L.length cL, I64 a.B] 24) (Obj.cells #[Value.slice A' b.C.length cA', Value.slice L' b.L.length cL', I64 b.B] 24) 24 #[.slice none 0 0, .slice none 0 0, I64 0])
  have HN4 := Lib.hid (show Blk ((((w.alloc (Obj.cells #[Value.slice A a.C.length cA, Value.slice L a.L.length cL, I64 a.B] 24)).alloc (Obj.cells #[Value.slice A' b.C.length cA', Value.slice L' b.L.length cL', I64 b.B] 24)).alloc (Obj.cells #[.slice none 0 0, .slice none 0 0, I64 0] 24)).alloc (Obj.cells #[Value.slice A a.C.length cA, Value.slice L a.L.length cL, I64 a.B, Value.slice A' b.C.length cA', Value.slice L' b.L.length cL', I64 b.B] 24)) (w.heap.size + 1 + 1 + 1) 24 #[Value.slice A a.C.length cA, Value.slice L a.L.length cL, I64 a.B, Value.slice A' b.C.length cA', Value.slice L' b.L.length cL', I64 b.B] from by
    have := Blk.new (((w.alloc (Obj.cells #[Value.slice A a.C.length cA, Value.slice L a.L.length cL, I64 a.B] 24)).alloc (Obj.cells #[Value.slice A' b.C.length cA', Value.slice L' b.L.length cL', I64 b.B] 24)).alloc (Obj.cells #[.slice none 0 0, .slice none 0 0, I64 0] 24)) 24 #[Value.slice A a.C.length cA, Value.slice L a.L.length cL, I64 a.B, Value.slice A' b.C.length cA', Value.slice L' b.L.length cL', I64 b.B]
    simpa using this)
  replace HD1 := Lib.hid (HD1.out.alloc (Obj.cells #[Value.slice A a.C.length cA, Value.slice L a.L.length cL, I64 a.B, Value.slice A' b.C.length cA', Value.slice L' b.L.length cL', I64 b.B] 24))
  replace HD2 := Lib.hid (HD2.out.alloc (Obj.cells #[Value.slice A a.C.length cA, Value.slice L a.L.length cL, I64 a.B, Value.slice A' b.C.length cA', Value.slice L' b.L.length cL', I64 b.B] 24))
  replace HD3 := Lib.hid (HD3.out.alloc (Obj.cells #[Value.slice A a.C.length cA, Value.slice L a.L.length cL, I64 a.B, Value.slice A' b.C.length cA', Value.slice L' b.L.length cL', I64 b.B] 24))
  replace HBw := Lib.hid (below_up HBw.out (below1 _ (Obj.cells #[Value.slice A a.C.length cA, Value.slice L a.L.length cL, I64 a.B, Value.slice A' b.C.length cA', Value.slice L' b.L.length cL', I64 b.B] 24)))
  go_enter Try.func25, Try.ntmps25
  go_wp2_with fail
  generalize (((w.alloc (Obj.cells #[Value.slice A a.C.length cA, Value.slice L a.L.length cL, I64 a.B] 24)).alloc (Obj.cells #[Value.slice A' b.C.length cA', Value.slice L' b.L.length cL', I64 b.B] 24)).alloc (Obj.cells #[.slice none 0 0, .slice none 0 0, I64 0] 24)).alloc (Obj.cells #[Value.slice A a.C.length cA, Value.slice L a.L.length cL, I64 a.B, Value.slice A' b.C.length cA', Value.slice L' b.L.length cL', I64 b.B] 24) = w1 at HBw HD1 HD2 HD3 HN4 ⊢
  go_loopw [7, 8, 14] (fun _ _ iv wr => ∃ i : Nat, iv = .int .i64 i ∧ i ≤ 2 ∧ Below w1.heap.size w1 wr ∧ (1 ≤ i → lcheck a 65536 = 0) ∧ (2 ≤ i → lcheck b 65536 = 0)) (fun _ _ iv _ => 2 - (intOf iv).toNat)
  case atStart => exact ⟨0, rfl, by omega, Below.refl _ _, fun h => by omega, fun h => by omega⟩
  case round =>
    obtain ⟨i, rfl, hi, hw, h1, h2⟩ := hrel
    have HW := Lib.hid hw
    have H1 := Lib.hid h1
    have H2 := Lib.hid h2
    clear hw h1 h2
    match i, hi with
    | 0, _ =>
        have q0 : wr.cell? ⟨w.heap.size + 1 + 1 + 1, 0, none⟩ = some (.slice A a.C.length cA) := (HW.out.cell (p := ⟨w.heap.size + 1 + 1 + 1, 0, none⟩) HN4.out.lt).trans (HN4.out.cell 0)
        have q1 : wr.cell? ⟨w.heap.size + 1 + 1 + 1, 1, none⟩ = some (.slice L a.L.length cL) := (HW.out.cell (p := ⟨w.heap.size + 1 + 1 + 1, 1, none⟩) HN4.out.lt).trans (HN4.out.cell 1)
        have q2 : wr.cell? ⟨w.heap.size + 1 + 1 + 1, 2, none⟩ = some (I64 a.B) := (HW.out.cell (p := ⟨w.heap.size + 1 + 1 + 1, 2, none⟩) HN4.out.lt).trans (HN4.out.cell 2)
        have BR := Lib.hid (below_up HW.out (below1 wr (.cells #[.slice A a.C.length cA, .slice L a.L.length cL, I64 a.B] 24)))
        go_wp2_with fail
        generalize wr.alloc (.cells #[.slice A a.C.length cA, .slice L a.L.length cL, I64 a.B] 24) = w3 at BR ⊢
        refine (right_any A L cA cL a w3 (HA.out.up (below_up HBw.out BR.out))).mono ?_
        rintro e w4 ⟨rfl, b4⟩
        have B4 := Lib.hid (below_up BR.out b4)
        clear b4 BR q0 q1 q2
        by_cases hz : lcheck a 65536 = 0
        · have hz' := hz
          rw [hz]
          clear hz
          go_wp2_with fail
          go_roundw
          case rel => exact ⟨1, by go_num, by omega, B4.out, fun _ => hz', fun h => by omega⟩
          case measure => simp [intOf]
        · have HN := Lib.hid (show addP a b = (lin0, lcheck a 65536) by rw [addP, if_pos (by simpa using hz)])
          have HE3 := Lib.hid (HD3.out.up B4.out)
          have f0 := HE3.out.frozen 0
          have f1 := HE3.out.frozen 1
          have f2 := HE3.out.frozen 2
          have d0 : w4.cell? ⟨w.heap.size + 1 + 1, 0, none⟩ = some (.slice none 0 0) := HE3.out.cell 0
          have d1 : w4.cell? ⟨w.heap.size + 1 + 1, 1, none⟩ = some (.slice none 0 0) := HE3.out.cell 1
          have d2 : w4.cell? ⟨w.heap.size + 1 + 1, 2, none⟩ = some (I64 0) := HE3.out.cell 2
          go_wp2_with fail
          refine bodyPost_ret (results_cell_row2 rfl _ _ (w.heap.size + 1 + 1) 24 #[.slice none 0 0, .slice none 0 0, I64 0] (0, 0) _ rfl (blkSet3 HE3.out _ _ _) Try.underlying24 rfl linInfo) rfl ?_
          exact ⟨none, none, 0, 0, by rw [HN.out]; rfl, by rw [HN.out]; exact OwnLin.nil _ _ _, belowSet3 (below_up HBw.out B4.out) (by omega) _ _ _⟩
    | 1, _ =>
        have q0 : wr.cell? ⟨w.heap.size + 1 + 1 + 1, 3, none⟩ = some (.slice A' b.C.length cA') := (HW.out.cell (p := ⟨w.heap.size + 1 + 1 + 1, 3, none⟩) HN4.out.lt).trans (HN4.out.cell 3)
        have q1 : wr.cell? ⟨w.heap.size + 1 + 1 + 1, 4, none⟩ = some (.slice L' b.L.length cL') := (HW.out.cell (p := ⟨w.heap.size + 1 + 1 + 1, 4, none⟩) HN4.out.lt).trans (HN4.out.cell 4)
        have q2 : wr.cell? ⟨w.heap.size + 1 + 1 + 1, 5, none⟩ = some (I64 b.B) := (HW.out.cell (p := ⟨w.heap.size + 1 + 1 + 1, 5, none⟩) HN4.out.lt).trans (HN4.out.cell 5)
        have BR := Lib.hid (below_up HW.out (below1 wr (.cells #[.slice A' b.C.length cA', .slice L' b.L.length cL', I64 b.B] 24)))
        go_wp2_with fail
        generalize wr.alloc (.cells #[.slice A' b.C.length cA', .slice L' b.L.length cL', I64 b.B] 24) = w3 at BR ⊢
        refine (right_any A' L' cA' cL' b w3 (HB.out.up (below_up HBw.out BR.out))).mono ?_
        rintro e w4 ⟨rfl, b4⟩
        have B4 := Lib.hid (below_up BR.out b4)
        clear b4 BR q0 q1 q2
        by_cases hz : lcheck b 65536 = 0
        · have hz' := hz
          rw [hz]
          clear hz
          go_wp2_with fail
          go_roundw
          case rel => exact ⟨2, by go_num, by omega, B4.out, fun _ => H1.out (by omega), fun _ => hz'⟩
          case measure => simp [intOf]
        · have HN := Lib.hid (show addP a b = (lin0, lcheck b 65536) by rw [addP, if_neg (by simpa using H1.out (by omega)), if_pos (by simpa using hz)])
          have HE3 := Lib.hid (HD3.out.up B4.out)
          have f0 := HE3.out.frozen 0
          have f1 := HE3.out.frozen 1
          have f2 := HE3.out.frozen 2
          have d0 : w4.cell? ⟨w.heap.size + 1 + 1, 0, none⟩ = some (.slice none 0 0) := HE3.out.cell 0
          have d1 : w4.cell? ⟨w.heap.size + 1 + 1, 1, none⟩ = some (.slice none 0 0) := HE3.out.cell 1
          have d2 : w4.cell? ⟨w.heap.size + 1 + 1, 2, none⟩ = some (I64 0) := HE3.out.cell 2
          go_wp2_with fail
          refine bodyPost_ret (results_cell_row2 rfl _ _ (w.heap.size + 1 + 1) 24 #[.slice none 0 0, .slice none 0 0, I64 0] (0, 0) _ rfl (blkSet3 HE3.out _ _ _) Try.underlying24 rfl linInfo) rfl ?_
          exact ⟨none, none, 0, 0, by rw [HN.out]; rfl, by rw [HN.out]; exact OwnLin.nil _ _ _, belowSet3 (below_up HBw.out B4.out) (by omega) _ _ _⟩
    | 2, _ =>
        have hz1 := H1.out (by omega)
        have hz2 := H2.out (by omega)
        obtain ⟨_, _, ka1, ka2, _, _, ka3⟩ := lcheck_ok hz1
        obtain ⟨_, _, kb1, kb2, _, _, kb3⟩ := lcheck_ok hz2
        have hsC : a.C.length + b.C.length ≤ 8192 := by omega
        have hsL : a.L.length + b.L.length ≤ 8192 := by omega
        have HS := Lib.hid (show ∀ W, Below w1.heap.size w1 W → W.cell? ⟨w.heap.size, 0, none⟩ = some (.slice A a.C.length cA) ∧ W.cell? ⟨w.heap.size, 1, none⟩ = some (.slice L a.L.length cL) ∧ W.cell? ⟨w.heap.size, 2, none⟩ = some (I64 a.B) ∧ W.cell? ⟨w.heap.size + 1, 0, none⟩ = some (.slice A' b.C.length cA') ∧ W.cell? ⟨w.heap.size + 1, 1, none⟩ = some (.slice L' b.L.length cL') ∧ W.cell? ⟨w.heap.size + 1, 2, none⟩ = some (I64 b.B) from fun W hW =>
          ⟨(HD1.out.up hW).cell 0, (HD1.out.up hW).cell 1, (HD1.out.up hW).cell 2, (HD2.out.up hW).cell 0, (HD2.out.up hW).cell 1, (HD2.out.up hW).cell 2⟩)
        have HLA := Lib.hid (show ∀ W, Below w1.heap.size w1 W → LinAt W A L a ∧ LinAt W A' L' b from fun W hW => ⟨HA.out.up (below_up HBw.out hW), HB.out.up (below_up HBw.out hW)⟩)
        have HZ1 := Lib.hid hz1
        have HZ2 := Lib.hid hz2
        have KL := Lib.hid (And.intro ka1 kb1)
        obtain ⟨ka4, ka5⟩ := ka2
        obtain ⟨kb4, kb5⟩ := kb2
        clear hz1 hz2 ka1 kb1
        go_upto_region 8 with fail
        go_cut [9] from 25 to 42 (fun s wx => ∃ n, s = .pointer (some ⟨n, 0, none⟩) ∧ AddR a b w1 n wx)
        case first =>
          have hwr : IntKind.i64.wrap (a.B + b.B) = a.B + b.B := IntWalk.i64_in _ (by omega)
          have KF := Lib.hid (show Below w1.heap.size w1 wr.drew from HW.out.drew)
          refine wp_region_noPanic ?_
          refine wp_region_K (k := 19) (S := fun W => W.cell? ⟨w.heap.size, 0, none⟩ = some (.slice A a.C.length cA) ∧ W.cell? ⟨w.heap.size, 1, none⟩ = some (.slice L a.L.length cL) ∧ W.cell? ⟨w.heap.size, 2, none⟩ = some (I64 a.B) ∧ W.cell? ⟨w.heap.size + 1, 0, none⟩ = some (.slice A' b.C.length cA') ∧ W.cell? ⟨w.heap.size + 1, 1, none⟩ = some (.slice L' b.L.length cL') ∧ W.cell? ⟨w.heap.size + 1, 2, none⟩ = some (I64 b.B)) (by kernel_rfl) ?_
          generalize wr.drew = W0 at KF ⊢
          have hS := HS.out W0 KF.out
          refine wpAnyK_pure (i := 0) (v := ?_) (by simp only [List.getElem?_toArray, List.getElem?_cons_zero]; rfl) (by kernel_rfl) (by kernel_rfl) (by kernel_rfl) rfl (fun _ _ _ h => h) (Or.inl ⟨by rfl, ?_⟩) (fun _ => hS) ?_
          rotate_left
          · intro w hSw; clear hSw; go_simp; try (with_reducible rfl)
          (try simp only [Act.put, List.setIfInBounds_toArray, List.set_cons_zero, List.set_cons_succ])
          refine wpAnyK_pure (i := 2) (v := ?_) (by simp only [List.getElem?_toArray, List.getElem?_cons_succ, List.getElem?_cons_zero]; rfl) (by kernel_rfl) (by kernel_rfl) (by kernel_rfl) rfl (fun _ _ _ h => h) (Or.inl ⟨by rfl, ?_⟩) (fun _ => hS) ?_
          rotate_left
          · intro w hSw; clear hSw; go_simp; try (with_reducible rfl)
          (try simp only [Act.put, List.setIfInBounds_toArray, List.set_cons_zero, List.set_cons_succ])
          refine wpAnyK_pure (i := 6) (v := ?_) (by simp only [List.getElem?_toArray, List.getElem?_cons_succ, List.getElem?_cons_zero]; rfl) (by kernel_rfl) (by kernel_rfl) (by kernel_rfl) rfl (fun _ _ _ h => h) (Or.inl ⟨by rfl, ?_⟩) (fun _ => hS) ?_
          rotate_left
          · intro w hSw; clear hSw; go_simp; try (with_reducible rfl)
          (try simp only [Act.put, List.setIfInBounds_toArray, List.set_cons_zero, List.set_cons_succ])
          refine wpAnyK_pure (i := 8) (v := ?_) (by simp only [List.getElem?_toArray, List.getElem?_cons_succ, List.getElem?_cons_zero]; rfl) (by kernel_rfl) (by kernel_rfl) (by kernel_rfl) rfl (fun _ _ _ h => h) (Or.inl ⟨by rfl, ?_⟩) (fun _ => hS) ?_
          rotate_left
          · intro w hSw; clear hSw; go_simp; try (with_reducible rfl)
          (try simp only [Act.put, List.setIfInBounds_toArray, List.set_cons_zero, List.set_cons_succ])
          refine wpAnyK_pure (i := 12) (v := ?_) (by simp only [List.getElem?_toArray, List.getElem?_cons_succ, List.getElem?_cons_zero]; rfl) (by kernel_rfl) (by kernel_rfl) (by kernel_rfl) rfl (fun _ _ _ h => h) (Or.inl ⟨by rfl, ?_⟩) (fun _ => hS) ?_
          rotate_left
          · intro w hSw; clear hSw; go_simp; try (with_reducible rfl)
          (try simp only [Act.put, List.setIfInBounds_toArray, List.set_cons_zero, List.set_cons_succ])
          refine wpAnyK_pure (i := 14) (v := ?_) (by simp only [List.getElem?_toArray, List.getElem?_cons_succ, List.getElem?_cons_zero]; rfl) (by kernel_rfl) (by kernel_rfl) (by kernel_rfl) rfl (fun _ _ _ h => h) (Or.inl ⟨by rfl, ?_⟩) (fun _ => hS) ?_
          rotate_left
          · intro w hSw; clear hSw; go_simp; try (with_reducible rfl)
          (try simp only [Act.put, List.setIfInBounds_toArray, List.set_cons_zero, List.set_cons_succ])
          refine wpAnyK_take (i := 1) (v := ?_) (by simp only [List.getElem?_toArray, List.getElem?_cons_succ, List.getElem?_cons_zero]; rfl) (by kernel_rfl) (by kernel_rfl) (by kernel_rfl) rfl (by kernel_rfl) (by kernel_rfl) (fun _ _ _ h => h) (Or.inl ⟨by rfl, ?_⟩) hS ?_
          rotate_left
          · intro w hSw; (try dsimp only at hSw); go_simp; try (with_reducible rfl)
          (try simp only [Act.put, List.setIfInBounds_toArray, List.set_cons_zero, List.set_cons_succ])
          refine wpAnyK_take (i := 3) (v := ?_) (by simp only [List.getElem?_toArray, List.getElem?_cons_succ, List.getElem?_cons_zero]; rfl) (by kernel_rfl) (by kernel_rfl) (by kernel_rfl) rfl (by kernel_rfl) (by kernel_rfl) (fun _ _ _ h => h) (Or.inl ⟨by rfl, ?_⟩) hS ?_
          rotate_left
          · intro w hSw; (try dsimp only at hSw); go_simp; try (with_reducible rfl)
          (try simp only [Act.put, List.setIfInBounds_toArray, List.set_cons_zero, List.set_cons_succ])
          refine wpAnyK_take (i := 7) (v := ?_) (by simp only [List.getElem?_toArray, List.getElem?_cons_succ, List.getElem?_cons_zero]; rfl) (by kernel_rfl) (by kernel_rfl) (by kernel_rfl) rfl (by kernel_rfl) (by kernel_rfl) (fun _ _ _ h => h) (Or.inl ⟨by rfl, ?_⟩) hS ?_
          rotate_left
          · intro w hSw; (try dsimp only at hSw); go_simp; try (with_reducible rfl)
          (try simp only [Act.put, List.setIfInBounds_toArray, List.set_cons_zero, List.set_cons_succ])
          refine wpAnyK_take (i := 9) (v := ?_) (by simp only [List.getElem?_toArray, List.getElem?_cons_succ, List.getElem?_cons_zero]; rfl) (by kernel_rfl) (by kernel_rfl) (by kernel_rfl) rfl (by kernel_rfl) (by kernel_rfl) (fun _ _ _ h => h) (Or.inl ⟨by rfl, ?_⟩) hS ?_
          rotate_left
          · intro w hSw; (try dsimp only at hSw); go_simp; try (with_reducible rfl)
          (try simp only [Act.put, List.setIfInBounds_toArray, List.set_cons_zero, List.set_cons_succ])
          refine wpAnyK_take (i := 13) (v := ?_) (by simp only [List.getElem?_toArray, List.getElem?_cons_succ, List.getElem?_cons_zero]; rfl) (by kernel_rfl) (by kernel_rfl) (by kernel_rfl) rfl (by kernel_rfl) (by kernel_rfl) (fun _ _ _ h => h) (Or.inl ⟨by rfl, ?_⟩) hS ?_
          rotate_left
          · intro w hSw; (try dsimp only at hSw); go_simp; try (with_reducible rfl)
          (try simp only [Act.put, List.setIfInBounds_toArray, List.set_cons_zero, List.set_cons_succ])
          refine wpAnyK_take (i := 15) (v := ?_) (by simp only [List.getElem?_toArray, List.getElem?_cons_succ, List.getElem?_cons_zero]; rfl) (by kernel_rfl) (by kernel_rfl) (by kernel_rfl) rfl (by kernel_rfl) (by kernel_rfl) (fun _ _ _ h => h) (Or.inl ⟨by rfl, ?_⟩) hS ?_
          rotate_left
          · intro w hSw; (try dsimp only at hSw); go_simp; try (with_reducible rfl)
          (try simp only [Act.put, List.setIfInBounds_toArray, List.set_cons_zero, List.set_cons_succ])
          refine wpAnyK_pure (i := 16) (v := ?_) (by simp only [List.getElem?_toArray, List.getElem?_cons_succ, List.getElem?_cons_zero]; rfl) (by kernel_rfl) (by kernel_rfl) (by kernel_rfl) rfl (fun _ _ _ h => h) (Or.inl ⟨by rfl, ?_⟩) (fun _ => hS) ?_
          rotate_left
          · intro w hSw; clear hSw; go_simp; try (with_reducible rfl)
          (try simp only [Act.put, List.setIfInBounds_toArray, List.set_cons_zero, List.set_cons_succ])
          refine wpAnyK_ready (rs := [4, 10, 18]) (by kernel_rfl) (by simp) ?_
          refine AllReadyK.cons (by simp only [List.getElem?_toArray, List.getElem?_cons_succ, List.getElem?_cons_zero]; rfl) (fun K hK => ?_) ?_
          · go_simp
            have hb := below1 W0 (.cells #[.slice A a.C.length cA, .slice A' b.C.length cA'] 22)
            have N1 := Lib.hid (rdn2 (HLA.out W0 KF.out).1.1 (HLA.out W0 KF.out).2.1 cA cA' 22)
            replace KF := Lib.hid (below_up KF.out hb)
            generalize W0.alloc (.cells #[.slice A a.C.length cA, .slice A' b.C.length cA'] 22) = W1 at hb KF N1 ⊢
            clear hb
            have hS := HS.out W1 KF.out
            refine hK.out _ _ hS (fun _ => ?_)
            clear hK K
            (try simp only [Act.put, List.setIfInBounds_toArray, List.set_cons_zero, List.set_cons_succ])
            refine wpAnyK_ready (rs := [5, 10, 18]) (by kernel_rfl) (by simp) ?_
            refine AllReadyK.cons (by simp only [List.getElem?_toArray, List.getElem?_cons_succ, List.getElem?_cons_zero]; rfl) (fun K hK => ?_) ?_
            · go_simp
              refine (concat2_any _ 2 a.C b.C W1 N1.out (by omega)).mono ?_
              rintro e W2 ⟨XA, Xc, rfl, hx, hb⟩
              go_wp2_with fail
              have X := Lib.hid (show OwnAt w1.heap.size W2 XA Xc (a.C ++ b.C) from ⟨hx.1, fun g hg => Nat.le_trans KF.out.size (hx.2 g hg)⟩)
              replace KF := Lib.hid (below_up KF.out hb)
              clear hx hb
              have hS := HS.out W2 KF.out
              refine hK.out _ _ hS (fun _ => ?_)
              clear hK K
              (try simp only [Act.put, List.setIfInBounds_toArray, List.set_cons_zero, List.set_cons_succ])
              refine wpAnyK_ready (rs := [10, 18]) (by kernel_rfl) (by simp) ?_
              refine AllReadyK.cons (by simp only [List.getElem?_toArray, List.getElem?_cons_succ, List.getElem?_cons_zero]; rfl) (fun K hK => ?_) ?_
              · go_simp
                have hb := below1 W2 (.cells #[.slice L a.L.length cL, .slice L' b.L.length cL'] 22)
                have N2 := Lib.hid (rdn2 (HLA.out W2 KF.out).1.2.1 (HLA.out W2 KF.out).2.2.1 cL cL' 22)
                replace X := Lib.hid (X.out.up hb)
                replace KF := Lib.hid (below_up KF.out hb)
                generalize W2.alloc (.cells #[.slice L a.L.length cL, .slice L' b.L.length cL'] 22) = W3 at hb KF N2 X ⊢
                clear hb
                have hS := HS.out W3 KF.out
                refine hK.out _ _ hS (fun _ => ?_)
                clear hK K
                (try simp only [Act.put, List.setIfInBounds_toArray, List.set_cons_zero, List.set_cons_succ])
                refine wpAnyK_ready (rs := [11, 18]) (by kernel_rfl) (by simp) ?_
                refine AllReadyK.cons (by simp only [List.getElem?_toArray, List.getElem?_cons_succ, List.getElem?_cons_zero]; rfl) (fun K hK => ?_) ?_
                · go_simp
                  refine (concat2_any _ 2 a.L b.L W3 N2.out (by omega)).mono ?_
                  rintro e W4 ⟨YA, Yc, rfl, hx, hb⟩
                  go_wp2_with fail
                  have AP := Lib.hid (fun g (h1 : (Value.slice XA (a.C ++ b.C).length Xc).ownBlock = some g) (h2 : (Value.slice YA (a.L ++ b.L).length Yc).ownBlock = some g) => show False from by have := X.out.1.lt h1; have := hx.2 g h2; omega)
                  have Y := Lib.hid (show OwnAt w1.heap.size W4 YA Yc (a.L ++ b.L) from ⟨hx.1, fun g hg => Nat.le_trans KF.out.size (hx.2 g hg)⟩)
                  replace X := Lib.hid (X.out.up hb)
                  replace KF := Lib.hid (below_up KF.out hb)
                  clear hx hb
                  have hS := HS.out W4 KF.out
                  refine hK.out _ _ hS (fun _ => ?_)
                  clear hK K
                  (try simp only [Act.put, List.setIfInBounds_toArray, List.set_cons_zero, List.set_cons_succ])
                  refine wpAnyK_pure (i := 17) (v := ?_) (by simp only [List.getElem?_toArray, List.getElem?_cons_succ, List.getElem?_cons_zero]; rfl) (by kernel_rfl) (by kernel_rfl) (by kernel_rfl) rfl (fun _ _ _ h => h) (Or.inl ⟨by rfl, ?_⟩) (fun _ => hS) ?_
                  rotate_left
                  · intro w hSw; clear hSw; go_simp; try (with_reducible rfl)
                  (try simp only [Act.put, List.setIfInBounds_toArray, List.set_cons_zero, List.set_cons_succ])
                  refine wpAnyK_ready (rs := [18]) (by kernel_rfl) (by simp) ?_
                  refine AllReadyK.cons (by simp only [List.getElem?_toArray, List.getElem?_cons_succ, List.getElem?_cons_zero]; rfl) (fun K hK => ?_) ?_
                  · go_simp
                    have hb := below1 W4 (.cells #[.slice none 0 0, .slice none 0 0, I64 0] 24)
                    have T := Lib.hid (Blk.new W4 24 #[.slice none 0 0, .slice none 0 0, I64 0])
                    have TN := Lib.hid KF.out.size
                    replace X := Lib.hid (X.out.up hb)
                    replace Y := Lib.hid (Y.out.up hb)
                    replace KF := Lib.hid (below_up KF.out hb)
                    generalize W4.alloc (.cells #[.slice none 0 0, .slice none 0 0, I64 0] 24) = W5 at hb KF T X Y ⊢
                    skip
                    clear hb
                    have hS := HS.out W5 KF.out
                    refine hK.out _ _ hS (fun _ => ?_)
                    clear hK K
                    (try simp only [Act.put, List.setIfInBounds_toArray, List.set_cons_zero, List.set_cons_succ])
                    refine wpAnyK_ready (rs := [19]) (by kernel_rfl) (by simp) ?_
                    refine AllReadyK.late (by simp only [List.getElem?_toArray, List.getElem?_cons_succ, List.getElem?_cons_zero]; rfl) (by kernel_rfl) (fun K hK => ?_) ?_
                    · have f0 := T.out.frozen 0
                      have f1 := T.out.frozen 1
                      have f2 := T.out.frozen 2
                      have d0 : W5.cell? ⟨W4.heap.size, 0, none⟩ = some (.slice none 0 0) := T.out.cell 0
                      have d1 : W5.cell? ⟨W4.heap.size, 1, none⟩ = some (.slice none 0 0) := T.out.cell 1
                      have d2 : W5.cell? ⟨W4.heap.size, 2, none⟩ = some (I64 0) := T.out.cell 2
                      go_simp
                      refine hK.out _ _ ?_
                      clear hK K
                      (try simp only [Act.put, List.setIfInBounds_toArray, List.set_cons_zero, List.set_cons_succ])
                      refine wpAnyK_done (by kernel_rfl) (NoPanic.normal ?_) _
                      go_wp2_with fail
                      go_meet
                      case rel => exact ⟨_, rfl, by have h := AddR.mk X.out Y.out AP.out T.out KF.out TN.out; simp only [List.length_append] at h; exact h⟩
                    exact AllReadyK.nil
                  exact AllReadyK.nil
                refine AllReadyK.cons (by simp only [List.getElem?_toArray, List.getElem?_cons_succ, List.getElem?_cons_zero]; rfl) (fun K hK => ?_) ?_
                · go_simp
                  have hb := below1 W3 (.cells #[.slice none 0 0, .slice none 0 0, I64 0] 24)
                  have T := Lib.hid (Blk.new W3 24 #[.slice none 0 0, .slice none 0 0, I64 0])
                  have TN := Lib.hid KF.out.size
                  replace X := Lib.hid (X.out.up hb)
                  replace N2 := Lib.hid (N2.out.up hb)
                  replace KF := Lib.hid (below_up KF.out hb)
                  generalize W3.alloc (.cells #[.slice none 0 0, .slice none 0 0, I64 0] 24) = W4 at hb KF T X N2 ⊢
                  skip
                  clear hb
                  have hS := HS.out W4 KF.out
                  refine hK.out _ _ hS (fun _ => ?_)
                  clear hK K
                  (try simp only [Act.put, List.setIfInBounds_toArray, List.set_cons_zero, List.set_cons_succ])
                  refine wpAnyK_ready (rs := [11]) (by kernel_rfl) (by simp) ?_
                  refine AllReadyK.cons (by simp only [List.getElem?_toArray, List.getElem?_cons_succ, List.getElem?_cons_zero]; rfl) (fun K hK => ?_) ?_
                  · go_simp
                    refine (concat2_any _ 2 a.L b.L W4 N2.out (by omega)).mono ?_
                    rintro e W5 ⟨YA, Yc, rfl, hx, hb⟩
                    go_wp2_with fail
                    have AP := Lib.hid (fun g (h1 : (Value.slice XA (a.C ++ b.C).length Xc).ownBlock = some g) (h2 : (Value.slice YA (a.L ++ b.L).length Yc).ownBlock = some g) => show False from by have := X.out.1.lt h1; have := hx.2 g h2; omega)
                    have Y := Lib.hid (show OwnAt w1.heap.size W5 YA Yc (a.L ++ b.L) from ⟨hx.1, fun g hg => Nat.le_trans KF.out.size (hx.2 g hg)⟩)
                    replace X := Lib.hid (X.out.up hb)
                    replace T := Lib.hid (T.out.up hb)
                    replace KF := Lib.hid (below_up KF.out hb)
                    clear hx hb
                    have hS := HS.out W5 KF.out
                    refine hK.out _ _ hS (fun _ => ?_)
                    clear hK K
                    (try simp only [Act.put, List.setIfInBounds_toArray, List.set_cons_zero, List.set_cons_succ])
                    refine wpAnyK_pure (i := 17) (v := ?_) (by simp only [List.getElem?_toArray, List.getElem?_cons_succ, List.getElem?_cons_zero]; rfl) (by kernel_rfl) (by kernel_rfl) (by kernel_rfl) rfl (fun _ _ _ h => h) (Or.inl ⟨by rfl, ?_⟩) (fun _ => hS) ?_
                    rotate_left
                    · intro w hSw; clear hSw; go_simp; try (with_reducible rfl)
                    (try simp only [Act.put, List.setIfInBounds_toArray, List.set_cons_zero, List.set_cons_succ])
                    refine wpAnyK_ready (rs := [19]) (by kernel_rfl) (by simp) ?_
                    refine AllReadyK.late (by simp only [List.getElem?_toArray, List.getElem?_cons_succ, List.getElem?_cons_zero]; rfl) (by kernel_rfl) (fun K hK => ?_) ?_
                    · have f0 := T.out.frozen 0
                      have f1 := T.out.frozen 1
                      have f2 := T.out.frozen 2
                      have d0 : W5.cell? ⟨W3.heap.size, 0, none⟩ = some (.slice none 0 0) := T.out.cell 0
                      have d1 : W5.cell? ⟨W3.heap.size, 1, none⟩ = some (.slice none 0 0) := T.out.cell 1
                      have d2 : W5.cell? ⟨W3.heap.size, 2, none⟩ = some (I64 0) := T.out.cell 2
                      go_simp
                      refine hK.out _ _ ?_
                      clear hK K
                      (try simp only [Act.put, List.setIfInBounds_toArray, List.set_cons_zero, List.set_cons_succ])
                      refine wpAnyK_done (by kernel_rfl) (NoPanic.normal ?_) _
                      go_wp2_with fail
                      go_meet
                      case rel => exact ⟨_, rfl, by have h := AddR.mk X.out Y.out AP.out T.out KF.out TN.out; simp only [List.length_append] at h; exact h⟩
                    exact AllReadyK.nil
                  exact AllReadyK.nil
                exact AllReadyK.nil
              refine AllReadyK.cons (by simp only [List.getElem?_toArray, List.getElem?_cons_succ, List.getElem?_cons_zero]; rfl) (fun K hK => ?_) ?_
              · go_simp
                have hb := below1 W2 (.cells #[.slice none 0 0, .slice none 0 0, I64 0] 24)
                have T := Lib.hid (Blk.new W2 24 #[.slice none 0 0, .slice none 0 0, I64 0])
                have TN := Lib.hid KF.out.size
                replace X := Lib.hid (X.out.up hb)
                replace KF := Lib.hid (below_up KF.out hb)
                generalize W2.alloc (.cells #[.slice none 0 0, .slice none 0 0, I64 0] 24) = W3 at hb KF T X ⊢
                skip
                clear hb
                have hS := HS.out W3 KF.out
                refine hK.out _ _ hS (fun _ => ?_)
                clear hK K
                (try simp only [Act.put, List.setIfInBounds_toArray, List.set_cons_zero, List.set_cons_succ])
                refine wpAnyK_ready (rs := [10]) (by kernel_rfl) (by simp) ?_
                refine AllReadyK.cons (by simp only [List.getElem?_toArray, List.getElem?_cons_succ, List.getElem?_cons_zero]; rfl) (fun K hK => ?_) ?_
                · go_simp
                  have hb := below1 W3 (.cells #[.slice L a.L.length cL, .slice L' b.L.length cL'] 22)
                  have N2 := Lib.hid (rdn2 (HLA.out W3 KF.out).1.2.1 (HLA.out W3 KF.out).2.2.1 cL cL' 22)
                  replace X := Lib.hid (X.out.up hb)
                  replace T := Lib.hid (T.out.up hb)
                  replace KF := Lib.hid (below_up KF.out hb)
                  generalize W3.alloc (.cells #[.slice L a.L.length cL, .slice L' b.L.length cL'] 22) = W4 at hb KF N2 X T ⊢
                  clear hb
                  have hS := HS.out W4 KF.out
                  refine hK.out _ _ hS (fun _ => ?_)
                  clear hK K
                  (try simp only [Act.put, List.setIfInBounds_toArray, List.set_cons_zero, List.set_cons_succ])
                  refine wpAnyK_ready (rs := [11]) (by kernel_rfl) (by simp) ?_
                  refine AllReadyK.cons (by simp only [List.getElem?_toArray, List.getElem?_cons_succ, List.getElem?_cons_zero]; rfl) (fun K hK => ?_) ?_
                  · go_simp
                    refine (concat2_any _ 2 a.L b.L W4 N2.out (by omega)).mono ?_
                    rintro e W5 ⟨YA, Yc, rfl, hx, hb⟩
                    go_wp2_with fail
                    have AP := Lib.hid (fun g (h1 : (Value.slice XA (a.C ++ b.C).length Xc).ownBlock = some g) (h2 : (Value.slice YA (a.L ++ b.L).length Yc).ownBlock = some g) => show False from by have := X.out.1.lt h1; have := hx.2 g h2; omega)
                    have Y := Lib.hid (show OwnAt w1.heap.size W5 YA Yc (a.L ++ b.L) from ⟨hx.1, fun g hg => Nat.le_trans KF.out.size (hx.2 g hg)⟩)
                    replace X := Lib.hid (X.out.up hb)
                    replace T := Lib.hid (T.out.up hb)
                    replace KF := Lib.hid (below_up KF.out hb)
                    clear hx hb
                    have hS := HS.out W5 KF.out
                    refine hK.out _ _ hS (fun _ => ?_)
                    clear hK K
                    (try simp only [Act.put, List.setIfInBounds_toArray, List.set_cons_zero, List.set_cons_succ])
                    refine wpAnyK_pure (i := 17) (v := ?_) (by simp only [List.getElem?_toArray, List.getElem?_cons_succ, List.getElem?_cons_zero]; rfl) (by kernel_rfl) (by kernel_rfl) (by kernel_rfl) rfl (fun _ _ _ h => h) (Or.inl ⟨by rfl, ?_⟩) (fun _ => hS) ?_
                    rotate_left
                    · intro w hSw; clear hSw; go_simp; try (with_reducible rfl)
                    (try simp only [Act.put, List.setIfInBounds_toArray, List.set_cons_zero, List.set_cons_succ])
                    refine wpAnyK_ready (rs := [19]) (by kernel_rfl) (by simp) ?_
                    refine AllReadyK.late (by simp only [List.getElem?_toArray, List.getElem?_cons_succ, List.getElem?_cons_zero]; rfl) (by kernel_rfl) (fun K hK => ?_) ?_
                    · have f0 := T.out.frozen 0
                      have f1 := T.out.frozen 1
                      have f2 := T.out.frozen 2
                      have d0 : W5.cell? ⟨W2.heap.size, 0, none⟩ = some (.slice none 0 0) := T.out.cell 0
                      have d1 : W5.cell? ⟨W2.heap.size, 1, none⟩ = some (.slice none 0 0) := T.out.cell 1
                      have d2 : W5.cell? ⟨W2.heap.size, 2, none⟩ = some (I64 0) := T.out.cell 2
                      go_simp
                      refine hK.out _ _ ?_
                      clear hK K
                      (try simp only [Act.put, List.setIfInBounds_toArray, List.set_cons_zero, List.set_cons_succ])
                      refine wpAnyK_done (by kernel_rfl) (NoPanic.normal ?_) _
                      go_wp2_with fail
                      go_meet
                      case rel => exact ⟨_, rfl, by have h := AddR.mk X.out Y.out AP.out T.out KF.out TN.out; simp only [List.length_append] at h; exact h⟩
                    exact AllReadyK.nil
                  exact AllReadyK.nil
                exact AllReadyK.nil
              exact AllReadyK.nil
            refine AllReadyK.cons (by simp only [List.getElem?_toArray, List.getElem?_cons_succ, List.getElem?_cons_zero]; rfl) (fun K hK => ?_) ?_
            · go_simp
              have hb := below1 W1 (.cells #[.slice L a.L.length cL, .slice L' b.L.length cL'] 22)
              have N2 := Lib.hid (rdn2 (HLA.out W1 KF.out).1.2.1 (HLA.out W1 KF.out).2.2.1 cL cL' 22)
              replace N1 := Lib.hid (N1.out.up hb)
              replace KF := Lib.hid (below_up KF.out hb)
              generalize W1.alloc (.cells #[.slice L a.L.length cL, .slice L' b.L.length cL'] 22) = W2 at hb KF N2 N1 ⊢
              clear hb
              have hS := HS.out W2 KF.out
              refine hK.out _ _ hS (fun _ => ?_)
              clear hK K
              (try simp only [Act.put, List.setIfInBounds_toArray, List.set_cons_zero, List.set_cons_succ])
              refine wpAnyK_ready (rs := [5, 18]) (by kernel_rfl) (by simp) ?_
              refine AllReadyK.cons (by simp only [List.getElem?_toArray, List.getElem?_cons_succ, List.getElem?_cons_zero]; rfl) (fun K hK => ?_) ?_
              · go_simp
                refine (concat2_any _ 2 a.C b.C W2 N1.out (by omega)).mono ?_
                rintro e W3 ⟨XA, Xc, rfl, hx, hb⟩
                go_wp2_with fail
                have X := Lib.hid (show OwnAt w1.heap.size W3 XA Xc (a.C ++ b.C) from ⟨hx.1, fun g hg => Nat.le_trans KF.out.size (hx.2 g hg)⟩)
                replace N2 := Lib.hid (N2.out.up hb)
                replace KF := Lib.hid (below_up KF.out hb)
                clear hx hb
                have hS := HS.out W3 KF.out
                refine hK.out _ _ hS (fun _ => ?_)
                clear hK K
                (try simp only [Act.put, List.setIfInBounds_toArray, List.set_cons_zero, List.set_cons_succ])
                refine wpAnyK_ready (rs := [11, 18]) (by kernel_rfl) (by simp) ?_
                refine AllReadyK.cons (by simp only [List.getElem?_toArray, List.getElem?_cons_succ, List.getElem?_cons_zero]; rfl) (fun K hK => ?_) ?_
                · go_simp
                  refine (concat2_any _ 2 a.L b.L W3 N2.out (by omega)).mono ?_
                  rintro e W4 ⟨YA, Yc, rfl, hx, hb⟩
                  go_wp2_with fail
                  have AP := Lib.hid (fun g (h1 : (Value.slice XA (a.C ++ b.C).length Xc).ownBlock = some g) (h2 : (Value.slice YA (a.L ++ b.L).length Yc).ownBlock = some g) => show False from by have := X.out.1.lt h1; have := hx.2 g h2; omega)
                  have Y := Lib.hid (show OwnAt w1.heap.size W4 YA Yc (a.L ++ b.L) from ⟨hx.1, fun g hg => Nat.le_trans KF.out.size (hx.2 g hg)⟩)
                  replace X := Lib.hid (X.out.up hb)
                  replace KF := Lib.hid (below_up KF.out hb)
                  clear hx hb
                  have hS := HS.out W4 KF.out
                  refine hK.out _ _ hS (fun _ => ?_)
                  clear hK K
                  (try simp only [Act.put, List.setIfInBounds_toArray, List.set_cons_zero, List.set_cons_succ])
                  refine wpAnyK_pure (i := 17) (v := ?_) (by simp only [List.getElem?_toArray, List.getElem?_cons_succ, List.getElem?_cons_zero]; rfl) (by kernel_rfl) (by kernel_rfl) (by kernel_rfl) rfl (fun _ _ _ h => h) (Or.inl ⟨by rfl, ?_⟩) (fun _ => hS) ?_
                  rotate_left
                  · intro w hSw; clear hSw; go_simp; try (with_reducible rfl)
                  (try simp only [Act.put, List.setIfInBounds_toArray, List.set_cons_zero, List.set_cons_succ])
                  refine wpAnyK_ready (rs := [18]) (by kernel_rfl) (by simp) ?_
                  refine AllReadyK.cons (by simp only [List.getElem?_toArray, List.getElem?_cons_succ, List.getElem?_cons_zero]; rfl) (fun K hK => ?_) ?_
                  · go_simp
                    have hb := below1 W4 (.cells #[.slice none 0 0, .slice none 0 0, I64 0] 24)
                    have T := Lib.hid (Blk.new W4 24 #[.slice none 0 0, .slice none 0 0, I64 0])
                    have TN := Lib.hid KF.out.size
                    replace X := Lib.hid (X.out.up hb)
                    replace Y := Lib.hid (Y.out.up hb)
                    replace KF := Lib.hid (below_up KF.out hb)
                    generalize W4.alloc (.cells #[.slice none 0 0, .slice none 0 0, I64 0] 24) = W5 at hb KF T X Y ⊢
                    skip
                    clear hb
                    have hS := HS.out W5 KF.out
                    refine hK.out _ _ hS (fun _ => ?_)
                    clear hK K
                    (try simp only [Act.put, List.setIfInBounds_toArray, List.set_cons_zero, List.set_cons_succ])
                    refine wpAnyK_ready (rs := [19]) (by kernel_rfl) (by simp) ?_
                    refine AllReadyK.late (by simp only [List.getElem?_toArray, List.getElem?_cons_succ, List.getElem?_cons_zero]; rfl) (by kernel_rfl) (fun K hK => ?_) ?_
                    · have f0 := T.out.frozen 0
                      have f1 := T.out.frozen 1
                      have f2 := T.out.frozen 2
                      have d0 : W5.cell? ⟨W4.heap.size, 0, none⟩ = some (.slice none 0 0) := T.out.cell 0
                      have d1 : W5.cell? ⟨W4.heap.size, 1, none⟩ = some (.slice none 0 0) := T.out.cell 1
                      have d2 : W5.cell? ⟨W4.heap.size, 2, none⟩ = some (I64 0) := T.out.cell 2
                      go_simp
                      refine hK.out _ _ ?_
                      clear hK K
                      (try simp only [Act.put, List.setIfInBounds_toArray, List.set_cons_zero, List.set_cons_succ])
                      refine wpAnyK_done (by kernel_rfl) (NoPanic.normal ?_) _
                      go_wp2_with fail
                      go_meet
                      case rel => exact ⟨_, rfl, by have h := AddR.mk X.out Y.out AP.out T.out KF.out TN.out; simp only [List.length_append] at h; exact h⟩
                    exact AllReadyK.nil
                  exact AllReadyK.nil
                refine AllReadyK.cons (by simp only [List.getElem?_toArray, List.getElem?_cons_succ, List.getElem?_cons_zero]; rfl) (fun K hK => ?_) ?_
                · go_simp
                  have hb := below1 W3 (.cells #[.slice none 0 0, .slice none 0 0, I64 0] 24)
                  have T := Lib.hid (Blk.new W3 24 #[.slice none 0 0, .slice none 0 0, I64 0])
                  have TN := Lib.hid KF.out.size
                  replace N2 := Lib.hid (N2.out.up hb)
                  replace X := Lib.hid (X.out.up hb)
                  replace KF := Lib.hid (below_up KF.out hb)
                  generalize W3.alloc (.cells #[.slice none 0 0, .slice none 0 0, I64 0] 24) = W4 at hb KF T N2 X ⊢
                  skip
                  clear hb
                  have hS := HS.out W4 KF.out
                  refine hK.out _ _ hS (fun _ => ?_)
                  clear hK K
                  (try simp only [Act.put, List.setIfInBounds_toArray, List.set_cons_zero, List.set_cons_succ])
                  refine wpAnyK_ready (rs := [11]) (by kernel_rfl) (by simp) ?_
                  refine AllReadyK.cons (by simp only [List.getElem?_toArray, List.getElem?_cons_succ, List.getElem?_cons_zero]; rfl) (fun K hK => ?_) ?_
                  · go_simp
                    refine (concat2_any _ 2 a.L b.L W4 N2.out (by omega)).mono ?_
                    rintro e W5 ⟨YA, Yc, rfl, hx, hb⟩
                    go_wp2_with fail
                    have AP := Lib.hid (fun g (h1 : (Value.slice XA (a.C ++ b.C).length Xc).ownBlock = some g) (h2 : (Value.slice YA (a.L ++ b.L).length Yc).ownBlock = some g) => show False from by have := X.out.1.lt h1; have := hx.2 g h2; omega)
                    have Y := Lib.hid (show OwnAt w1.heap.size W5 YA Yc (a.L ++ b.L) from ⟨hx.1, fun g hg => Nat.le_trans KF.out.size (hx.2 g hg)⟩)
                    replace X := Lib.hid (X.out.up hb)
                    replace T := Lib.hid (T.out.up hb)
                    replace KF := Lib.hid (below_up KF.out hb)
                    clear hx hb
                    have hS := HS.out W5 KF.out
                    refine hK.out _ _ hS (fun _ => ?_)
                    clear hK K
                    (try simp only [Act.put, List.setIfInBounds_toArray, List.set_cons_zero, List.set_cons_succ])
                    refine wpAnyK_pure (i := 17) (v := ?_) (by simp only [List.getElem?_toArray, List.getElem?_cons_succ, List.getElem?_cons_zero]; rfl) (by kernel_rfl) (by kernel_rfl) (by kernel_rfl) rfl (fun _ _ _ h => h) (Or.inl ⟨by rfl, ?_⟩) (fun _ => hS) ?_
                    rotate_left
                    · intro w hSw; clear hSw; go_simp; try (with_reducible rfl)
                    (try simp only [Act.put, List.setIfInBounds_toArray, List.set_cons_zero, List.set_cons_succ])
                    refine wpAnyK_ready (rs := [19]) (by kernel_rfl) (by simp) ?_
                    refine AllReadyK.late (by simp only [List.getElem?_toArray, List.getElem?_cons_succ, List.getElem?_cons_zero]; rfl) (by kernel_rfl) (fun K hK => ?_) ?_
                    · have f0 := T.out.frozen 0
                      have f1 := T.out.frozen 1
                      have f2 := T.out.frozen 2
                      have d0 : W5.cell? ⟨W3.heap.size, 0, none⟩ = some (.slice none 0 0) := T.out.cell 0
                      have d1 : W5.cell? ⟨W3.heap.size, 1, none⟩ = some (.slice none 0 0) := T.out.cell 1
                      have d2 : W5.cell? ⟨W3.heap.size, 2, none⟩ = some (I64 0) := T.out.cell 2
                      go_simp
                      refine hK.out _ _ ?_
                      clear hK K
                      (try simp only [Act.put, List.setIfInBounds_toArray, List.set_cons_zero, List.set_cons_succ])
                      refine wpAnyK_done (by kernel_rfl) (NoPanic.normal ?_) _
                      go_wp2_with fail
                      go_meet
                      case rel => exact ⟨_, rfl, by have h := AddR.mk X.out Y.out AP.out T.out KF.out TN.out; simp only [List.length_append] at h; exact h⟩
                    exact AllReadyK.nil
                  exact AllReadyK.nil
                exact AllReadyK.nil
              refine AllReadyK.cons (by simp only [List.getElem?_toArray, List.getElem?_cons_succ, List.getElem?_cons_zero]; rfl) (fun K hK => ?_) ?_
              · go_simp
                have hb := below1 W2 (.cells #[.slice none 0 0, .slice none 0 0, I64 0] 24)
                have T := Lib.hid (Blk.new W2 24 #[.slice none 0 0, .slice none 0 0, I64 0])
                have TN := Lib.hid KF.out.size
                replace N1 := Lib.hid (N1.out.up hb)
                replace N2 := Lib.hid (N2.out.up hb)
                replace KF := Lib.hid (below_up KF.out hb)
                generalize W2.alloc (.cells #[.slice none 0 0, .slice none 0 0, I64 0] 24) = W3 at hb KF T N1 N2 ⊢
                skip
                clear hb
                have hS := HS.out W3 KF.out
                refine hK.out _ _ hS (fun _ => ?_)
                clear hK K
                (try simp only [Act.put, List.setIfInBounds_toArray, List.set_cons_zero, List.set_cons_succ])
                refine wpAnyK_ready (rs := [5]) (by kernel_rfl) (by simp) ?_
                refine AllReadyK.cons (by simp only [List.getElem?_toArray, List.getElem?_cons_succ, List.getElem?_cons_zero]; rfl) (fun K hK => ?_) ?_
                · go_simp
                  refine (concat2_any _ 2 a.C b.C W3 N1.out (by omega)).mono ?_
                  rintro e W4 ⟨XA, Xc, rfl, hx, hb⟩
                  go_wp2_with fail
                  have X := Lib.hid (show OwnAt w1.heap.size W4 XA Xc (a.C ++ b.C) from ⟨hx.1, fun g hg => Nat.le_trans KF.out.size (hx.2 g hg)⟩)
                  replace N2 := Lib.hid (N2.out.up hb)
                  replace T := Lib.hid (T.out.up hb)
                  replace KF := Lib.hid (below_up KF.out hb)
                  clear hx hb
                  have hS := HS.out W4 KF.out
                  refine hK.out _ _ hS (fun _ => ?_)
                  clear hK K
                  (try simp only [Act.put, List.setIfInBounds_toArray, List.set_cons_zero, List.set_cons_succ])
                  refine wpAnyK_ready (rs := [11]) (by kernel_rfl) (by simp) ?_
                  refine AllReadyK.cons (by simp only [List.getElem?_toArray, List.getElem?_cons_succ, List.getElem?_cons_zero]; rfl) (fun K hK => ?_) ?_
                  · go_simp
                    refine (concat2_any _ 2 a.L b.L W4 N2.out (by omega)).mono ?_
                    rintro e W5 ⟨YA, Yc, rfl, hx, hb⟩
                    go_wp2_with fail
                    have AP := Lib.hid (fun g (h1 : (Value.slice XA (a.C ++ b.C).length Xc).ownBlock = some g) (h2 : (Value.slice YA (a.L ++ b.L).length Yc).ownBlock = some g) => show False from by have := X.out.1.lt h1; have := hx.2 g h2; omega)
                    have Y := Lib.hid (show OwnAt w1.heap.size W5 YA Yc (a.L ++ b.L) from ⟨hx.1, fun g hg => Nat.le_trans KF.out.size (hx.2 g hg)⟩)
                    replace T := Lib.hid (T.out.up hb)
                    replace X := Lib.hid (X.out.up hb)
                    replace KF := Lib.hid (below_up KF.out hb)
                    clear hx hb
                    have hS := HS.out W5 KF.out
                    refine hK.out _ _ hS (fun _ => ?_)
                    clear hK K
                    (try simp only [Act.put, List.setIfInBounds_toArray, List.set_cons_zero, List.set_cons_succ])
                    refine wpAnyK_pure (i := 17) (v := ?_) (by simp only [List.getElem?_toArray, List.getElem?_cons_succ, List.getElem?_cons_zero]; rfl) (by kernel_rfl) (by kernel_rfl) (by kernel_rfl) rfl (fun _ _ _ h => h) (Or.inl ⟨by rfl, ?_⟩) (fun _ => hS) ?_
                    rotate_left
                    · intro w hSw; clear hSw; go_simp; try (with_reducible rfl)
                    (try simp only [Act.put, List.setIfInBounds_toArray, List.set_cons_zero, List.set_cons_succ])
                    refine wpAnyK_ready (rs := [19]) (by kernel_rfl) (by simp) ?_
                    refine AllReadyK.late (by simp only [List.getElem?_toArray, List.getElem?_cons_succ, List.getElem?_cons_zero]; rfl) (by kernel_rfl) (fun K hK => ?_) ?_
                    · have f0 := T.out.frozen 0
                      have f1 := T.out.frozen 1
                      have f2 := T.out.frozen 2
                      have d0 : W5.cell? ⟨W2.heap.size, 0, none⟩ = some (.slice none 0 0) := T.out.cell 0
                      have d1 : W5.cell? ⟨W2.heap.size, 1, none⟩ = some (.slice none 0 0) := T.out.cell 1
                      have d2 : W5.cell? ⟨W2.heap.size, 2, none⟩ = some (I64 0) := T.out.cell 2
                      go_simp
                      refine hK.out _ _ ?_
                      clear hK K
                      (try simp only [Act.put, List.setIfInBounds_toArray, List.set_cons_zero, List.set_cons_succ])
                      refine wpAnyK_done (by kernel_rfl) (NoPanic.normal ?_) _
                      go_wp2_with fail
                      go_meet
                      case rel => exact ⟨_, rfl, by have h := AddR.mk X.out Y.out AP.out T.out KF.out TN.out; simp only [List.length_append] at h; exact h⟩
                    exact AllReadyK.nil
                  exact AllReadyK.nil
                exact AllReadyK.nil
              exact AllReadyK.nil
            refine AllReadyK.cons (by simp only [List.getElem?_toArray, List.getElem?_cons_succ, List.getElem?_cons_zero]; rfl) (fun K hK => ?_) ?_
            · go_simp
              have hb := below1 W1 (.cells #[.slice none 0 0, .slice none 0 0, I64 0] 24)
              have T := Lib.hid (Blk.new W1 24 #[.slice none 0 0, .slice none 0 0, I64 0])
              have TN := Lib.hid KF.out.size
              replace N1 := Lib.hid (N1.out.up hb)
              replace KF := Lib.hid (below_up KF.out hb)
              generalize W1.alloc (.cells #[.slice none 0 0, .slice none 0 0, I64 0] 24) = W2 at hb KF T N1 ⊢
              skip
              clear hb
              have hS := HS.out W2 KF.out
              refine hK.out _ _ hS (fun _ => ?_)
              clear hK K
              (try simp only [Act.put, List.setIfInBounds_toArray, List.set_cons_zero, List.set_cons_succ])
              refine wpAnyK_ready (rs := [5, 10]) (by kernel_rfl) (by simp) ?_
              refine AllReadyK.cons (by simp only [List.getElem?_toArray, List.getElem?_cons_succ, List.getElem?_cons_zero]; rfl) (fun K hK => ?_) ?_
              · go_simp
                refine (concat2_any _ 2 a.C b.C W2 N1.out (by omega)).mono ?_
                rintro e W3 ⟨XA, Xc, rfl, hx, hb⟩
                go_wp2_with fail
                have X := Lib.hid (show OwnAt w1.heap.size W3 XA Xc (a.C ++ b.C) from ⟨hx.1, fun g hg => Nat.le_trans KF.out.size (hx.2 g hg)⟩)
                replace T := Lib.hid (T.out.up hb)
                replace KF := Lib.hid (below_up KF.out hb)
                clear hx hb
                have hS := HS.out W3 KF.out
                refine hK.out _ _ hS (fun _ => ?_)
                clear hK K
                (try simp only [Act.put, List.setIfInBounds_toArray, List.set_cons_zero, List.set_cons_succ])
                refine wpAnyK_ready (rs := [10]) (by kernel_rfl) (by simp) ?_
                refine AllReadyK.cons (by simp only [List.getElem?_toArray, List.getElem?_cons_succ, List.getElem?_cons_zero]; rfl) (fun K hK => ?_) ?_
                · go_simp
                  have hb := below1 W3 (.cells #[.slice L a.L.length cL, .slice L' b.L.length cL'] 22)
                  have N2 := Lib.hid (rdn2 (HLA.out W3 KF.out).1.2.1 (HLA.out W3 KF.out).2.2.1 cL cL' 22)
                  replace T := Lib.hid (T.out.up hb)
                  replace X := Lib.hid (X.out.up hb)
                  replace KF := Lib.hid (below_up KF.out hb)
                  generalize W3.alloc (.cells #[.slice L a.L.length cL, .slice L' b.L.length cL'] 22) = W4 at hb KF N2 T X ⊢
                  clear hb
                  have hS := HS.out W4 KF.out
                  refine hK.out _ _ hS (fun _ => ?_)
                  clear hK K
                  (try simp only [Act.put, List.setIfInBounds_toArray, List.set_cons_zero, List.set_cons_succ])
                  refine wpAnyK_ready (rs := [11]) (by kernel_rfl) (by simp) ?_
                  refine AllReadyK.cons (by simp only [List.getElem?_toArray, List.getElem?_cons_succ, List.getElem?_cons_zero]; rfl) (fun K hK => ?_) ?_
                  · go_simp
                    refine (concat2_any _ 2 a.L b.L W4 N2.out (by omega)).mono ?_
                    rintro e W5 ⟨YA, Yc, rfl, hx, hb⟩
                    go_wp2_with fail
                    have AP := Lib.hid (fun g (h1 : (Value.slice XA (a.C ++ b.C).length Xc).ownBlock = some g) (h2 : (Value.slice YA (a.L ++ b.L).length Yc).ownBlock = some g) => show False from by have := X.out.1.lt h1; have := hx.2 g h2; omega)
                    have Y := Lib.hid (show OwnAt w1.heap.size W5 YA Yc (a.L ++ b.L) from ⟨hx.1, fun g hg => Nat.le_trans KF.out.size (hx.2 g hg)⟩)
                    replace T := Lib.hid (T.out.up hb)
                    replace X := Lib.hid (X.out.up hb)
                    replace KF := Lib.hid (below_up KF.out hb)
                    clear hx hb
                    have hS := HS.out W5 KF.out
                    refine hK.out _ _ hS (fun _ => ?_)
                    clear hK K
                    (try simp only [Act.put, List.setIfInBounds_toArray, List.set_cons_zero, List.set_cons_succ])
                    refine wpAnyK_pure (i := 17) (v := ?_) (by simp only [List.getElem?_toArray, List.getElem?_cons_succ, List.getElem?_cons_zero]; rfl) (by kernel_rfl) (by kernel_rfl) (by kernel_rfl) rfl (fun _ _ _ h => h) (Or.inl ⟨by rfl, ?_⟩) (fun _ => hS) ?_
                    rotate_left
                    · intro w hSw; clear hSw; go_simp; try (with_reducible rfl)
                    (try simp only [Act.put, List.setIfInBounds_toArray, List.set_cons_zero, List.set_cons_succ])
                    refine wpAnyK_ready (rs := [19]) (by kernel_rfl) (by simp) ?_
                    refine AllReadyK.late (by simp only [List.getElem?_toArray, List.getElem?_cons_succ, List.getElem?_cons_zero]; rfl) (by kernel_rfl) (fun K hK => ?_) ?_
                    · have f0 := T.out.frozen 0
                      have f1 := T.out.frozen 1
                      have f2 := T.out.frozen 2
                      have d0 : W5.cell? ⟨W1.heap.size, 0, none⟩ = some (.slice none 0 0) := T.out.cell 0
                      have d1 : W5.cell? ⟨W1.heap.size, 1, none⟩ = some (.slice none 0 0) := T.out.cell 1
                      have d2 : W5.cell? ⟨W1.heap.size, 2, none⟩ = some (I64 0) := T.out.cell 2
                      go_simp
                      refine hK.out _ _ ?_
                      clear hK K
                      (try simp only [Act.put, List.setIfInBounds_toArray, List.set_cons_zero, List.set_cons_succ])
                      refine wpAnyK_done (by kernel_rfl) (NoPanic.normal ?_) _
                      go_wp2_with fail
                      go_meet
                      case rel => exact ⟨_, rfl, by have h := AddR.mk X.out Y.out AP.out T.out KF.out TN.out; simp only [List.length_append] at h; exact h⟩
                    exact AllReadyK.nil
                  exact AllReadyK.nil
                exact AllReadyK.nil
              refine AllReadyK.cons (by simp only [List.getElem?_toArray, List.getElem?_cons_succ, List.getElem?_cons_zero]; rfl) (fun K hK => ?_) ?_
              · go_simp
                have hb := below1 W2 (.cells #[.slice L a.L.length cL, .slice L' b.L.length cL'] 22)
                have N2 := Lib.hid (rdn2 (HLA.out W2 KF.out).1.2.1 (HLA.out W2 KF.out).2.2.1 cL cL' 22)
                replace N1 := Lib.hid (N1.out.up hb)
                replace T := Lib.hid (T.out.up hb)
                replace KF := Lib.hid (below_up KF.out hb)
                generalize W2.alloc (.cells #[.slice L a.L.length cL, .slice L' b.L.length cL'] 22) = W3 at hb KF N2 N1 T ⊢
                clear hb
                have hS := HS.out W3 KF.out
                refine hK.out _ _ hS (fun _ => ?_)
                clear hK K
                (try simp only [Act.put, List.setIfInBounds_toArray, List.set_cons_zero, List.set_cons_succ])
                refine wpAnyK_ready (rs := [5]) (by kernel_rfl) (by simp) ?_
                refine AllReadyK.cons (by simp only [List.getElem?_toArray, List.getElem?_cons_succ, List.getElem?_cons_zero]; rfl) (fun K hK => ?_) ?_
                · go_simp
                  refine (concat2_any _ 2 a.C b.C W3 N1.out (by omega)).mono ?_
                  rintro e W4 ⟨XA, Xc, rfl, hx, hb⟩
                  go_wp2_with fail
                  have X := Lib.hid (show OwnAt w1.heap.size W4 XA Xc (a.C ++ b.C) from ⟨hx.1, fun g hg => Nat.le_trans KF.out.size (hx.2 g hg)⟩)
                  replace T := Lib.hid (T.out.up hb)
                  replace N2 := Lib.hid (N2.out.up hb)
                  replace KF := Lib.hid (below_up KF.out hb)
                  clear hx hb
                  have hS := HS.out W4 KF.out
                  refine hK.out _ _ hS (fun _ => ?_)
                  clear hK K
                  (try simp only [Act.put, List.setIfInBounds_toArray, List.set_cons_zero, List.set_cons_succ])
                  refine wpAnyK_ready (rs := [11]) (by kernel_rfl) (by simp) ?_
                  refine AllReadyK.cons (by simp only [List.getElem?_toArray, List.getElem?_cons_succ, List.getElem?_cons_zero]; rfl) (fun K hK => ?_) ?_
                  · go_simp
                    refine (concat2_any _ 2 a.L b.L W4 N2.out (by omega)).mono ?_
                    rintro e W5 ⟨YA, Yc, rfl, hx, hb⟩
                    go_wp2_with fail
                    have AP := Lib.hid (fun g (h1 : (Value.slice XA (a.C ++ b.C).length Xc).ownBlock = some g) (h2 : (Value.slice YA (a.L ++ b.L).length Yc).ownBlock = some g) => show False from by have := X.out.1.lt h1; have := hx.2 g h2; omega)
                    have Y := Lib.hid (show OwnAt w1.heap.size W5 YA Yc (a.L ++ b.L) from ⟨hx.1, fun g hg => Nat.le_trans KF.out.size (hx.2 g hg)⟩)
                    replace T := Lib.hid (T.out.up hb)
                    replace X := Lib.hid (X.out.up hb)
                    replace KF := Lib.hid (below_up KF.out hb)
                    clear hx hb
                    have hS := HS.out W5 KF.out
                    refine hK.out _ _ hS (fun _ => ?_)
                    clear hK K
                    (try simp only [Act.put, List.setIfInBounds_toArray, List.set_cons_zero, List.set_cons_succ])
                    refine wpAnyK_pure (i := 17) (v := ?_) (by simp only [List.getElem?_toArray, List.getElem?_cons_succ, List.getElem?_cons_zero]; rfl) (by kernel_rfl) (by kernel_rfl) (by kernel_rfl) rfl (fun _ _ _ h => h) (Or.inl ⟨by rfl, ?_⟩) (fun _ => hS) ?_
                    rotate_left
                    · intro w hSw; clear hSw; go_simp; try (with_reducible rfl)
                    (try simp only [Act.put, List.setIfInBounds_toArray, List.set_cons_zero, List.set_cons_succ])
                    refine wpAnyK_ready (rs := [19]) (by kernel_rfl) (by simp) ?_
                    refine AllReadyK.late (by simp only [List.getElem?_toArray, List.getElem?_cons_succ, List.getElem?_cons_zero]; rfl) (by kernel_rfl) (fun K hK => ?_) ?_
                    · have f0 := T.out.frozen 0
                      have f1 := T.out.frozen 1
                      have f2 := T.out.frozen 2
                      have d0 : W5.cell? ⟨W1.heap.size, 0, none⟩ = some (.slice none 0 0) := T.out.cell 0
                      have d1 : W5.cell? ⟨W1.heap.size, 1, none⟩ = some (.slice none 0 0) := T.out.cell 1
                      have d2 : W5.cell? ⟨W1.heap.size, 2, none⟩ = some (I64 0) := T.out.cell 2
                      go_simp
                      refine hK.out _ _ ?_
                      clear hK K
                      (try simp only [Act.put, List.setIfInBounds_toArray, List.set_cons_zero, List.set_cons_succ])
                      refine wpAnyK_done (by kernel_rfl) (NoPanic.normal ?_) _
                      go_wp2_with fail
                      go_meet
                      case rel => exact ⟨_, rfl, by have h := AddR.mk X.out Y.out AP.out T.out KF.out TN.out; simp only [List.length_append] at h; exact h⟩
                    exact AllReadyK.nil
                  exact AllReadyK.nil
                exact AllReadyK.nil
              exact AllReadyK.nil
            exact AllReadyK.nil
          refine AllReadyK.cons (by simp only [List.getElem?_toArray, List.getElem?_cons_succ, List.getElem?_cons_zero]; rfl) (fun K hK => ?_) ?_
          · go_simp
            have hb := below1 W0 (.cells #[.slice L a.L.length cL, .slice L' b.L.length cL'] 22)
            have N2 := Lib.hid (rdn2 (HLA.out W0 KF.out).1.2.1 (HLA.out W0 KF.out).2.2.1 cL cL' 22)
            replace KF := Lib.hid (below_up KF.out hb)
            generalize W0.alloc (.cells #[.slice L a.L.length cL, .slice L' b.L.length cL'] 22) = W1 at hb KF N2 ⊢
            clear hb
            have hS := HS.out W1 KF.out
            refine hK.out _ _ hS (fun _ => ?_)
            clear hK K
            (try simp only [Act.put, List.setIfInBounds_toArray, List.set_cons_zero, List.set_cons_succ])
            refine wpAnyK_ready (rs := [4, 18]) (by kernel_rfl) (by simp) ?_
            refine AllReadyK.cons (by simp only [List.getElem?_toArray, List.getElem?_cons_succ, List.getElem?_cons_zero]; rfl) (fun K hK => ?_) ?_
            · go_simp
              have hb := below1 W1 (.cells #[.slice A a.C.length cA, .slice A' b.C.length cA'] 22)
              have N1 := Lib.hid (rdn2 (HLA.out W1 KF.out).1.1 (HLA.out W1 KF.out).2.1 cA cA' 22)
              replace N2 := Lib.hid (N2.out.up hb)
              replace KF := Lib.hid (below_up KF.out hb)
              generalize W1.alloc (.cells #[.slice A a.C.length cA, .slice A' b.C.length cA'] 22) = W2 at hb KF N1 N2 ⊢
              clear hb
              have hS := HS.out W2 KF.out
              refine hK.out _ _ hS (fun _ => ?_)
              clear hK K
              (try simp only [Act.put, List.setIfInBounds_toArray, List.set_cons_zero, List.set_cons_succ])
              refine wpAnyK_ready (rs := [5, 18]) (by kernel_rfl) (by simp) ?_
              refine AllReadyK.cons (by simp only [List.getElem?_toArray, List.getElem?_cons_succ, List.getElem?_cons_zero]; rfl) (fun K hK => ?_) ?_
              · go_simp
                refine (concat2_any _ 2 a.C b.C W2 N1.out (by omega)).mono ?_
                rintro e W3 ⟨XA, Xc, rfl, hx, hb⟩
                go_wp2_with fail
                have X := Lib.hid (show OwnAt w1.heap.size W3 XA Xc (a.C ++ b.C) from ⟨hx.1, fun g hg => Nat.le_trans KF.out.size (hx.2 g hg)⟩)
                replace N2 := Lib.hid (N2.out.up hb)
                replace KF := Lib.hid (below_up KF.out hb)
                clear hx hb
                have hS := HS.out W3 KF.out
                refine hK.out _ _ hS (fun _ => ?_)
                clear hK K
                (try simp only [Act.put, List.setIfInBounds_toArray, List.set_cons_zero, List.set_cons_succ])
                refine wpAnyK_ready (rs := [11, 18]) (by kernel_rfl) (by simp) ?_
                refine AllReadyK.cons (by simp only [List.getElem?_toArray, List.getElem?_cons_succ, List.getElem?_cons_zero]; rfl) (fun K hK => ?_) ?_
                · go_simp
                  refine (concat2_any _ 2 a.L b.L W3 N2.out (by omega)).mono ?_
                  rintro e W4 ⟨YA, Yc, rfl, hx, hb⟩
                  go_wp2_with fail
                  have AP := Lib.hid (fun g (h1 : (Value.slice XA (a.C ++ b.C).length Xc).ownBlock = some g) (h2 : (Value.slice YA (a.L ++ b.L).length Yc).ownBlock = some g) => show False from by have := X.out.1.lt h1; have := hx.2 g h2; omega)
                  have Y := Lib.hid (show OwnAt w1.heap.size W4 YA Yc (a.L ++ b.L) from ⟨hx.1, fun g hg => Nat.le_trans KF.out.size (hx.2 g hg)⟩)
                  replace X := Lib.hid (X.out.up hb)
                  replace KF := Lib.hid (below_up KF.out hb)
                  clear hx hb
                  have hS := HS.out W4 KF.out
                  refine hK.out _ _ hS (fun _ => ?_)
                  clear hK K
                  (try simp only [Act.put, List.setIfInBounds_toArray, List.set_cons_zero, List.set_cons_succ])
                  refine wpAnyK_pure (i := 17) (v := ?_) (by simp only [List.getElem?_toArray, List.getElem?_cons_succ, List.getElem?_cons_zero]; rfl) (by kernel_rfl) (by kernel_rfl) (by kernel_rfl) rfl (fun _ _ _ h => h) (Or.inl ⟨by rfl, ?_⟩) (fun _ => hS) ?_
                  rotate_left
                  · intro w hSw; clear hSw; go_simp; try (with_reducible rfl)
                  (try simp only [Act.put, List.setIfInBounds_toArray, List.set_cons_zero, List.set_cons_succ])
                  refine wpAnyK_ready (rs := [18]) (by kernel_rfl) (by simp) ?_
                  refine AllReadyK.cons (by simp only [List.getElem?_toArray, List.getElem?_cons_succ, List.getElem?_cons_zero]; rfl) (fun K hK => ?_) ?_
                  · go_simp
                    have hb := below1 W4 (.cells #[.slice none 0 0, .slice none 0 0, I64 0] 24)
                    have T := Lib.hid (Blk.new W4 24 #[.slice none 0 0, .slice none 0 0, I64 0])
                    have TN := Lib.hid KF.out.size
                    replace X := Lib.hid (X.out.up hb)
                    replace Y := Lib.hid (Y.out.up hb)
                    replace KF := Lib.hid (below_up KF.out hb)
                    generalize W4.alloc (.cells #[.slice none 0 0, .slice none 0 0, I64 0] 24) = W5 at hb KF T X Y ⊢
                    skip
                    clear hb
                    have hS := HS.out W5 KF.out
                    refine hK.out _ _ hS (fun _ => ?_)
                    clear hK K
                    (try simp only [Act.put, List.setIfInBounds_toArray, List.set_cons_zero, List.set_cons_succ])
                    refine wpAnyK_ready (rs := [19]) (by kernel_rfl) (by simp) ?_
                    refine AllReadyK.late (by simp only [List.getElem?_toArray, List.getElem?_cons_succ, List.getElem?_cons_zero]; rfl) (by kernel_rfl) (fun K hK => ?_) ?_
                    · have f0 := T.out.frozen 0
                      have f1 := T.out.frozen 1
                      have f2 := T.out.frozen 2
                      have d0 : W5.cell? ⟨W4.heap.size, 0, none⟩ = some (.slice none 0 0) := T.out.cell 0
                      have d1 : W5.cell? ⟨W4.heap.size, 1, none⟩ = some (.slice none 0 0) := T.out.cell 1
                      have d2 : W5.cell? ⟨W4.heap.size, 2, none⟩ = some (I64 0) := T.out.cell 2
                      go_simp
                      refine hK.out _ _ ?_
                      clear hK K
                      (try simp only [Act.put, List.setIfInBounds_toArray, List.set_cons_zero, List.set_cons_succ])
                      refine wpAnyK_done (by kernel_rfl) (NoPanic.normal ?_) _
                      go_wp2_with fail
                      go_meet
                      case rel => exact ⟨_, rfl, by have h := AddR.mk X.out Y.out AP.out T.out KF.out TN.out; simp only [List.length_append] at h; exact h⟩
                    exact AllReadyK.nil
                  exact AllReadyK.nil
                refine AllReadyK.cons (by simp only [List.getElem?_toArray, List.getElem?_cons_succ, List.getElem?_cons_zero]; rfl) (fun K hK => ?_) ?_
                · go_simp
                  have hb := below1 W3 (.cells #[.slice none 0 0, .slice none 0 0, I64 0] 24)
                  have T := Lib.hid (Blk.new W3 24 #[.slice none 0 0, .slice none 0 0, I64 0])
                  have TN := Lib.hid KF.out.size
                  replace N2 := Lib.hid (N2.out.up hb)
                  replace X := Lib.hid (X.out.up hb)
                  replace KF := Lib.hid (below_up KF.out hb)
                  generalize W3.alloc (.cells #[.slice none 0 0, .slice none 0 0, I64 0] 24) = W4 at hb KF T N2 X ⊢
                  skip
                  clear hb
                  have hS := HS.out W4 KF.out
                  refine hK.out _ _ hS (fun _ => ?_)
                  clear hK K
                  (try simp only [Act.put, List.setIfInBounds_toArray, List.set_cons_zero, List.set_cons_succ])
                  refine wpAnyK_ready (rs := [11]) (by kernel_rfl) (by simp) ?_
                  refine AllReadyK.cons (by simp only [List.getElem?_toArray, List.getElem?_cons_succ, List.getElem?_cons_zero]; rfl) (fun K hK => ?_) ?_
                  · go_simp
                    refine (concat2_any _ 2 a.L b.L W4 N2.out (by omega)).mono ?_
                    rintro e W5 ⟨YA, Yc, rfl, hx, hb⟩
                    go_wp2_with fail
                    have AP := Lib.hid (fun g (h1 : (Value.slice XA (a.C ++ b.C).length Xc).ownBlock = some g) (h2 : (Value.slice YA (a.L ++ b.L).length Yc).ownBlock = some g) => show False from by have := X.out.1.lt h1; have := hx.2 g h2; omega)
                    have Y := Lib.hid (show OwnAt w1.heap.size W5 YA Yc (a.L ++ b.L) from ⟨hx.1, fun g hg => Nat.le_trans KF.out.size (hx.2 g hg)⟩)
                    replace X := Lib.hid (X.out.up hb)
                    replace T := Lib.hid (T.out.up hb)
                    replace KF := Lib.hid (below_up KF.out hb)
                    clear hx hb
                    have hS := HS.out W5 KF.out
                    refine hK.out _ _ hS (fun _ => ?_)
                    clear hK K
                    (try simp only [Act.put, List.setIfInBounds_toArray, List.set_cons_zero, List.set_cons_succ])
                    refine wpAnyK_pure (i := 17) (v := ?_) (by simp only [List.getElem?_toArray, List.getElem?_cons_succ, List.getElem?_cons_zero]; rfl) (by kernel_rfl) (by kernel_rfl) (by kernel_rfl) rfl (fun _ _ _ h => h) (Or.inl ⟨by rfl, ?_⟩) (fun _ => hS) ?_
                    rotate_left
                    · intro w hSw; clear hSw; go_simp; try (with_reducible rfl)
                    (try simp only [Act.put, List.setIfInBounds_toArray, List.set_cons_zero, List.set_cons_succ])
                    refine wpAnyK_ready (rs := [19]) (by kernel_rfl) (by simp) ?_
                    refine AllReadyK.late (by simp only [List.getElem?_toArray, List.getElem?_cons_succ, List.getElem?_cons_zero]; rfl) (by kernel_rfl) (fun K hK => ?_) ?_
                    · have f0 := T.out.frozen 0
                      have f1 := T.out.frozen 1
                      have f2 := T.out.frozen 2
                      have d0 : W5.cell? ⟨W3.heap.size, 0, none⟩ = some (.slice none 0 0) := T.out.cell 0
                      have d1 : W5.cell? ⟨W3.heap.size, 1, none⟩ = some (.slice none 0 0) := T.out.cell 1
                      have d2 : W5.cell? ⟨W3.heap.size, 2, none⟩ = some (I64 0) := T.out.cell 2
                      go_simp
                      refine hK.out _ _ ?_
                      clear hK K
                      (try simp only [Act.put, List.setIfInBounds_toArray, List.set_cons_zero, List.set_cons_succ])
                      refine wpAnyK_done (by kernel_rfl) (NoPanic.normal ?_) _
                      go_wp2_with fail
                      go_meet
                      case rel => exact ⟨_, rfl, by have h := AddR.mk X.out Y.out AP.out T.out KF.out TN.out; simp only [List.length_append] at h; exact h⟩
                    exact AllReadyK.nil
                  exact AllReadyK.nil
                exact AllReadyK.nil
              refine AllReadyK.cons (by simp only [List.getElem?_toArray, List.getElem?_cons_succ, List.getElem?_cons_zero]; rfl) (fun K hK => ?_) ?_
              · go_simp
                have hb := below1 W2 (.cells #[.slice none 0 0, .slice none 0 0, I64 0] 24)
                have T := Lib.hid (Blk.new W2 24 #[.slice none 0 0, .slice none 0 0, I64 0])
                have TN := Lib.hid KF.out.size
                replace N2 := Lib.hid (N2.out.up hb)
                replace N1 := Lib.hid (N1.out.up hb)
                replace KF := Lib.hid (below_up KF.out hb)
                generalize W2.alloc (.cells #[.slice none 0 0, .slice none 0 0, I64 0] 24) = W3 at hb KF T N2 N1 ⊢
                skip
                clear hb
                have hS := HS.out W3 KF.out
                refine hK.out _ _ hS (fun _ => ?_)
                clear hK K
                (try simp only [Act.put, List.setIfInBounds_toArray, List.set_cons_zero, List.set_cons_succ])
                refine wpAnyK_ready (rs := [5]) (by kernel_rfl) (by simp) ?_
                refine AllReadyK.cons (by simp only [List.getElem?_toArray, List.getElem?_cons_succ, List.getElem?_cons_zero]; rfl) (fun K hK => ?_) ?_
                · go_simp
                  refine (concat2_any _ 2 a.C b.C W3 N1.out (by omega)).mono ?_
                  rintro e W4 ⟨XA, Xc, rfl, hx, hb⟩
                  go_wp2_with fail
                  have X := Lib.hid (show OwnAt w1.heap.size W4 XA Xc (a.C ++ b.C) from ⟨hx.1, fun g hg => Nat.le_trans KF.out.size (hx.2 g hg)⟩)
                  replace N2 := Lib.hid (N2.out.up hb)
                  replace T := Lib.hid (T.out.up hb)
                  replace KF := Lib.hid (below_up KF.out hb)
                  clear hx hb
                  have hS := HS.out W4 KF.out
                  refine hK.out _ _ hS (fun _ => ?_)
                  clear hK K
                  (try simp only [Act.put, List.setIfInBounds_toArray, List.set_cons_zero, List.set_cons_succ])
                  refine wpAnyK_ready (rs := [11]) (by kernel_rfl) (by simp) ?_
                  refine AllReadyK.cons (by simp only [List.getElem?_toArray, List.getElem?_cons_succ, List.getElem?_cons_zero]; rfl) (fun K hK => ?_) ?_
                  · go_simp
                    refine (concat2_any _ 2 a.L b.L W4 N2.out (by omega)).mono ?_
                    rintro e W5 ⟨YA, Yc, rfl, hx, hb⟩
                    go_wp2_with fail
                    have AP := Lib.hid (fun g (h1 : (Value.slice XA (a.C ++ b.C).length Xc).ownBlock = some g) (h2 : (Value.slice YA (a.L ++ b.L).length Yc).ownBlock = some g) => show False from by have := X.out.1.lt h1; have := hx.2 g h2; omega)
                    have Y := Lib.hid (show OwnAt w1.heap.size W5 YA Yc (a.L ++ b.L) from ⟨hx.1, fun g hg => Nat.le_trans KF.out.size (hx.2 g hg)⟩)
                    replace T := Lib.hid (T.out.up hb)
                    replace X := Lib.hid (X.out.up hb)
                    replace KF := Lib.hid (below_up KF.out hb)
                    clear hx hb
                    have hS := HS.out W5 KF.out
                    refine hK.out _ _ hS (fun _ => ?_)
                    clear hK K
                    (try simp only [Act.put, List.setIfInBounds_toArray, List.set_cons_zero, List.set_cons_succ])
                    refine wpAnyK_pure (i := 17) (v := ?_) (by simp only [List.getElem?_toArray, List.getElem?_cons_succ, List.getElem?_cons_zero]; rfl) (by kernel_rfl) (by kernel_rfl) (by kernel_rfl) rfl (fun _ _ _ h => h) (Or.inl ⟨by rfl, ?_⟩) (fun _ => hS) ?_
                    rotate_left
                    · intro w hSw; clear hSw; go_simp; try (with_reducible rfl)
                    (try simp only [Act.put, List.setIfInBounds_toArray, List.set_cons_zero, List.set_cons_succ])
                    refine wpAnyK_ready (rs := [19]) (by kernel_rfl) (by simp) ?_
                    refine AllReadyK.late (by simp only [List.getElem?_toArray, List.getElem?_cons_succ, List.getElem?_cons_zero]; rfl) (by kernel_rfl) (fun K hK => ?_) ?_
                    · have f0 := T.out.frozen 0
                      have f1 := T.out.frozen 1
                      have f2 := T.out.frozen 2
                      have d0 : W5.cell? ⟨W2.heap.size, 0, none⟩ = some (.slice none 0 0) := T.out.cell 0
                      have d1 : W5.cell? ⟨W2.heap.size, 1, none⟩ = some (.slice none 0 0) := T.out.cell 1
                      have d2 : W5.cell? ⟨W2.heap.size, 2, none⟩ = some (I64 0) := T.out.cell 2
                      go_simp
                      refine hK.out _ _ ?_
                      clear hK K
                      (try simp only [Act.put, List.setIfInBounds_toArray, List.set_cons_zero, List.set_cons_succ])
                      refine wpAnyK_done (by kernel_rfl) (NoPanic.normal ?_) _
                      go_wp2_with fail
                      go_meet
                      case rel => exact ⟨_, rfl, by have h := AddR.mk X.out Y.out AP.out T.out KF.out TN.out; simp only [List.length_append] at h; exact h⟩
                    exact AllReadyK.nil
                  exact AllReadyK.nil
                exact AllReadyK.nil
              exact AllReadyK.nil
            refine AllReadyK.cons (by simp only [List.getElem?_toArray, List.getElem?_cons_succ, List.getElem?_cons_zero]; rfl) (fun K hK => ?_) ?_
            · go_simp
              have hb := below1 W1 (.cells #[.slice none 0 0, .slice none 0 0, I64 0] 24)
              have T := Lib.hid (Blk.new W1 24 #[.slice none 0 0, .slice none 0 0, I64 0])
              have TN := Lib.hid KF.out.size
              replace N2 := Lib.hid (N2.out.up hb)
              replace KF := Lib.hid (below_up KF.out hb)
              generalize W1.alloc (.cells #[.slice none 0 0, .slice none 0 0, I64 0] 24) = W2 at hb KF T N2 ⊢
              skip
              clear hb
              have hS := HS.out W2 KF.out
              refine hK.out _ _ hS (fun _ => ?_)
              clear hK K
              (try simp only [Act.put, List.setIfInBounds_toArray, List.set_cons_zero, List.set_cons_succ])
              refine wpAnyK_ready (rs := [4]) (by kernel_rfl) (by simp) ?_
              refine AllReadyK.cons (by simp only [List.getElem?_toArray, List.getElem?_cons_succ, List.getElem?_cons_zero]; rfl) (fun K hK => ?_) ?_
              · go_simp
                have hb := below1 W2 (.cells #[.slice A a.C.length cA, .slice A' b.C.length cA'] 22)
                have N1 := Lib.hid (rdn2 (HLA.out W2 KF.out).1.1 (HLA.out W2 KF.out).2.1 cA cA' 22)
                replace N2 := Lib.hid (N2.out.up hb)
                replace T := Lib.hid (T.out.up hb)
                replace KF := Lib.hid (below_up KF.out hb)
                generalize W2.alloc (.cells #[.slice A a.C.length cA, .slice A' b.C.length cA'] 22) = W3 at hb KF N1 N2 T ⊢
                clear hb
                have hS := HS.out W3 KF.out
                refine hK.out _ _ hS (fun _ => ?_)
                clear hK K
                (try simp only [Act.put, List.setIfInBounds_toArray, List.set_cons_zero, List.set_cons_succ])
                refine wpAnyK_ready (rs := [5]) (by kernel_rfl) (by simp) ?_
                refine AllReadyK.cons (by simp only [List.getElem?_toArray, List.getElem?_cons_succ, List.getElem?_cons_zero]; rfl) (fun K hK => ?_) ?_
                · go_simp
                  refine (concat2_any _ 2 a.C b.C W3 N1.out (by omega)).mono ?_
                  rintro e W4 ⟨XA, Xc, rfl, hx, hb⟩
                  go_wp2_with fail
                  have X := Lib.hid (show OwnAt w1.heap.size W4 XA Xc (a.C ++ b.C) from ⟨hx.1, fun g hg => Nat.le_trans KF.out.size (hx.2 g hg)⟩)
                  replace N2 := Lib.hid (N2.out.up hb)
                  replace T := Lib.hid (T.out.up hb)
                  replace KF := Lib.hid (below_up KF.out hb)
                  clear hx hb
                  have hS := HS.out W4 KF.out
                  refine hK.out _ _ hS (fun _ => ?_)
                  clear hK K
                  (try simp only [Act.put, List.setIfInBounds_toArray, List.set_cons_zero, List.set_cons_succ])
                  refine wpAnyK_ready (rs := [11]) (by kernel_rfl) (by simp) ?_
                  refine AllReadyK.cons (by simp only [List.getElem?_toArray, List.getElem?_cons_succ, List.getElem?_cons_zero]; rfl) (fun K hK => ?_) ?_
                  · go_simp
                    refine (concat2_any _ 2 a.L b.L W4 N2.out (by omega)).mono ?_
                    rintro e W5 ⟨YA, Yc, rfl, hx, hb⟩
                    go_wp2_with fail
                    have AP := Lib.hid (fun g (h1 : (Value.slice XA (a.C ++ b.C).length Xc).ownBlock = some g) (h2 : (Value.slice YA (a.L ++ b.L).length Yc).ownBlock = some g) => show False from by have := X.out.1.lt h1; have := hx.2 g h2; omega)
                    have Y := Lib.hid (show OwnAt w1.heap.size W5 YA Yc (a.L ++ b.L) from ⟨hx.1, fun g hg => Nat.le_trans KF.out.size (hx.2 g hg)⟩)
                    replace T := Lib.hid (T.out.up hb)
                    replace X := Lib.hid (X.out.up hb)
                    replace KF := Lib.hid (below_up KF.out hb)
                    clear hx hb
                    have hS := HS.out W5 KF.out
                    refine hK.out _ _ hS (fun _ => ?_)
                    clear hK K
                    (try simp only [Act.put, List.setIfInBounds_toArray, List.set_cons_zero, List.set_cons_succ])
                    refine wpAnyK_pure (i := 17) (v := ?_) (by simp only [List.getElem?_toArray, List.getElem?_cons_succ, List.getElem?_cons_zero]; rfl) (by kernel_rfl) (by kernel_rfl) (by kernel_rfl) rfl (fun _ _ _ h => h) (Or.inl ⟨by rfl, ?_⟩) (fun _ => hS) ?_
                    rotate_left
                    · intro w hSw; clear hSw; go_simp; try (with_reducible rfl)
                    (try simp only [Act.put, List.setIfInBounds_toArray, List.set_cons_zero, List.set_cons_succ])
                    refine wpAnyK_ready (rs := [19]) (by kernel_rfl) (by simp) ?_
                    refine AllReadyK.late (by simp only [List.getElem?_toArray, List.getElem?_cons_succ, List.getElem?_cons_zero]; rfl) (by kernel_rfl) (fun K hK => ?_) ?_
                    · have f0 := T.out.frozen 0
                      have f1 := T.out.frozen 1
                      have f2 := T.out.frozen 2
                      have d0 : W5.cell? ⟨W1.heap.size, 0, none⟩ = some (.slice none 0 0) := T.out.cell 0
                      have d1 : W5.cell? ⟨W1.heap.size, 1, none⟩ = some (.slice none 0 0) := T.out.cell 1
                      have d2 : W5.cell? ⟨W1.heap.size, 2, none⟩ = some (I64 0) := T.out.cell 2
                      go_simp
                      refine hK.out _ _ ?_
                      clear hK K
                      (try simp only [Act.put, List.setIfInBounds_toArray, List.set_cons_zero, List.set_cons_succ])
                      refine wpAnyK_done (by kernel_rfl) (NoPanic.normal ?_) _
                      go_wp2_with fail
                      go_meet
                      case rel => exact ⟨_, rfl, by have h := AddR.mk X.out Y.out AP.out T.out KF.out TN.out; simp only [List.length_append] at h; exact h⟩
                    exact AllReadyK.nil
                  exact AllReadyK.nil
                exact AllReadyK.nil
              exact AllReadyK.nil
            exact AllReadyK.nil
          refine AllReadyK.cons (by simp only [List.getElem?_toArray, List.getElem?_cons_succ, List.getElem?_cons_zero]; rfl) (fun K hK => ?_) ?_
          · go_simp
            have hb := below1 W0 (.cells #[.slice none 0 0, .slice none 0 0, I64 0] 24)
            have T := Lib.hid (Blk.new W0 24 #[.slice none 0 0, .slice none 0 0, I64 0])
            have TN := Lib.hid KF.out.size
            replace KF := Lib.hid (below_up KF.out hb)
            generalize W0.alloc (.cells #[.slice none 0 0, .slice none 0 0, I64 0] 24) = W1 at hb KF T ⊢
            skip
            clear hb
            have hS := HS.out W1 KF.out
            refine hK.out _ _ hS (fun _ => ?_)
            clear hK K
            (try simp only [Act.put, List.setIfInBounds_toArray, List.set_cons_zero, List.set_cons_succ])
            refine wpAnyK_ready (rs := [4, 10]) (by kernel_rfl) (by simp) ?_
            refine AllReadyK.cons (by simp only [List.getElem?_toArray, List.getElem?_cons_succ, List.getElem?_cons_zero]; rfl) (fun K hK => ?_) ?_
            · go_simp
              have hb := below1 W1 (.cells #[.slice A a.C.length cA, .slice A' b.C.length cA'] 22)
              have N1 := Lib.hid (rdn2 (HLA.out W1 KF.out).1.1 (HLA.out W1 KF.out).2.1 cA cA' 22)
              replace T := Lib.hid (T.out.up hb)
              replace KF := Lib.hid (below_up KF.out hb)
              generalize W1.alloc (.cells #[.slice A a.C.length cA, .slice A' b.C.length cA'] 22) = W2 at hb KF N1 T ⊢
              clear hb
              have hS := HS.out W2 KF.out
              refine hK.out _ _ hS (fun _ => ?_)
              clear hK K
              (try simp only [Act.put, List.setIfInBounds_toArray, List.set_cons_zero, List.set_cons_succ])
              refine wpAnyK_ready (rs := [5, 10]) (by kernel_rfl) (by simp) ?_
              refine AllReadyK.cons (by simp only [List.getElem?_toArray, List.getElem?_cons_succ, List.getElem?_cons_zero]; rfl) (fun K hK => ?_) ?_
              · go_simp
                refine (concat2_any _ 2 a.C b.C W2 N1.out (by omega)).mono ?_
                rintro e W3 ⟨XA, Xc, rfl, hx, hb⟩
                go_wp2_with fail
                have X := Lib.hid (show OwnAt w1.heap.size W3 XA Xc (a.C ++ b.C) from ⟨hx.1, fun g hg => Nat.le_trans KF.out.size (hx.2 g hg)⟩)
                replace T := Lib.hid (T.out.up hb)
                replace KF := Lib.hid (below_up KF.out hb)
                clear hx hb
                have hS := HS.out W3 KF.out
                refine hK.out _ _ hS (fun _ => ?_)
                clear hK K
                (try simp only [Act.put, List.setIfInBounds_toArray, List.set_cons_zero, List.set_cons_succ])
                refine wpAnyK_ready (rs := [10]) (by kernel_rfl) (by simp) ?_
                refine AllReadyK.cons (by simp only [List.getElem?_toArray, List.getElem?_cons_succ, List.getElem?_cons_zero]; rfl) (fun K hK => ?_) ?_
                · go_simp
                  have hb := below1 W3 (.cells #[.slice L a.L.length cL, .slice L' b.L.length cL'] 22)
                  have N2 := Lib.hid (rdn2 (HLA.out W3 KF.out).1.2.1 (HLA.out W3 KF.out).2.2.1 cL cL' 22)
                  replace T := Lib.hid (T.out.up hb)
                  replace X := Lib.hid (X.out.up hb)
                  replace KF := Lib.hid (below_up KF.out hb)
                  generalize W3.alloc (.cells #[.slice L a.L.length cL, .slice L' b.L.length cL'] 22) = W4 at hb KF N2 T X ⊢
                  clear hb
                  have hS := HS.out W4 KF.out
                  refine hK.out _ _ hS (fun _ => ?_)
                  clear hK K
                  (try simp only [Act.put, List.setIfInBounds_toArray, List.set_cons_zero, List.set_cons_succ])
                  refine wpAnyK_ready (rs := [11]) (by kernel_rfl) (by simp) ?_
                  refine AllReadyK.cons (by simp only [List.getElem?_toArray, List.getElem?_cons_succ, List.getElem?_cons_zero]; rfl) (fun K hK => ?_) ?_
                  · go_simp
                    refine (concat2_any _ 2 a.L b.L W4 N2.out (by omega)).mono ?_
                    rintro e W5 ⟨YA, Yc, rfl, hx, hb⟩
                    go_wp2_with fail
                    have AP := Lib.hid (fun g (h1 : (Value.slice XA (a.C ++ b.C).length Xc).ownBlock = some g) (h2 : (Value.slice YA (a.L ++ b.L).length Yc).ownBlock = some g) => show False from by have := X.out.1.lt h1; have := hx.2 g h2; omega)
                    have Y := Lib.hid (show OwnAt w1.heap.size W5 YA Yc (a.L ++ b.L) from ⟨hx.1, fun g hg => Nat.le_trans KF.out.size (hx.2 g hg)⟩)
                    replace T := Lib.hid (T.out.up hb)
                    replace X := Lib.hid (X.out.up hb)
                    replace KF := Lib.hid (below_up KF.out hb)
                    clear hx hb
                    have hS := HS.out W5 KF.out
                    refine hK.out _ _ hS (fun _ => ?_)
                    clear hK K
                    (try simp only [Act.put, List.setIfInBounds_toArray, List.set_cons_zero, List.set_cons_succ])
                    refine wpAnyK_pure (i := 17) (v := ?_) (by simp only [List.getElem?_toArray, List.getElem?_cons_succ, List.getElem?_cons_zero]; rfl) (by kernel_rfl) (by kernel_rfl) (by kernel_rfl) rfl (fun _ _ _ h => h) (Or.inl ⟨by rfl, ?_⟩) (fun _ => hS) ?_
                    rotate_left
                    · intro w hSw; clear hSw; go_simp; try (with_reducible rfl)
                    (try simp only [Act.put, List.setIfInBounds_toArray, List.set_cons_zero, List.set_cons_succ])
                    refine wpAnyK_ready (rs := [19]) (by kernel_rfl) (by simp) ?_
                    refine AllReadyK.late (by simp only [List.getElem?_toArray, List.getElem?_cons_succ, List.getElem?_cons_zero]; rfl) (by kernel_rfl) (fun K hK => ?_) ?_
                    · have f0 := T.out.frozen 0
                      have f1 := T.out.frozen 1
                      have f2 := T.out.frozen 2
                      have d0 : W5.cell? ⟨W0.heap.size, 0, none⟩ = some (.slice none 0 0) := T.out.cell 0
                      have d1 : W5.cell? ⟨W0.heap.size, 1, none⟩ = some (.slice none 0 0) := T.out.cell 1
                      have d2 : W5.cell? ⟨W0.heap.size, 2, none⟩ = some (I64 0) := T.out.cell 2
                      go_simp
                      refine hK.out _ _ ?_
                      clear hK K
                      (try simp only [Act.put, List.setIfInBounds_toArray, List.set_cons_zero, List.set_cons_succ])
                      refine wpAnyK_done (by kernel_rfl) (NoPanic.normal ?_) _
                      go_wp2_with fail
                      go_meet
                      case rel => exact ⟨_, rfl, by have h := AddR.mk X.out Y.out AP.out T.out KF.out TN.out; simp only [List.length_append] at h; exact h⟩
                    exact AllReadyK.nil
                  exact AllReadyK.nil
                exact AllReadyK.nil
              refine AllReadyK.cons (by simp only [List.getElem?_toArray, List.getElem?_cons_succ, List.getElem?_cons_zero]; rfl) (fun K hK => ?_) ?_
              · go_simp
                have hb := below1 W2 (.cells #[.slice L a.L.length cL, .slice L' b.L.length cL'] 22)
                have N2 := Lib.hid (rdn2 (HLA.out W2 KF.out).1.2.1 (HLA.out W2 KF.out).2.2.1 cL cL' 22)
                replace T := Lib.hid (T.out.up hb)
                replace N1 := Lib.hid (N1.out.up hb)
                replace KF := Lib.hid (below_up KF.out hb)
                generalize W2.alloc (.cells #[.slice L a.L.length cL, .slice L' b.L.length cL'] 22) = W3 at hb KF N2 T N1 ⊢
                clear hb
                have hS := HS.out W3 KF.out
                refine hK.out _ _ hS (fun _ => ?_)
                clear hK K
                (try simp only [Act.put, List.setIfInBounds_toArray, List.set_cons_zero, List.set_cons_succ])
                refine wpAnyK_ready (rs := [5]) (by kernel_rfl) (by simp) ?_
                refine AllReadyK.cons (by simp only [List.getElem?_toArray, List.getElem?_cons_succ, List.getElem?_cons_zero]; rfl) (fun K hK => ?_) ?_
                · go_simp
                  refine (concat2_any _ 2 a.C b.C W3 N1.out (by omega)).mono ?_
                  rintro e W4 ⟨XA, Xc, rfl, hx, hb⟩
                  go_wp2_with fail
                  have X := Lib.hid (show OwnAt w1.heap.size W4 XA Xc (a.C ++ b.C) from ⟨hx.1, fun g hg => Nat.le_trans KF.out.size (hx.2 g hg)⟩)
                  replace T := Lib.hid (T.out.up hb)
                  replace N2 := Lib.hid (N2.out.up hb)
                  replace KF := Lib.hid (below_up KF.out hb)
                  clear hx hb
                  have hS := HS.out W4 KF.out
                  refine hK.out _ _ hS (fun _ => ?_)
                  clear hK K
                  (try simp only [Act.put, List.setIfInBounds_toArray, List.set_cons_zero, List.set_cons_succ])
                  refine wpAnyK_ready (rs := [11]) (by kernel_rfl) (by simp) ?_
                  refine AllReadyK.cons (by simp only [List.getElem?_toArray, List.getElem?_cons_succ, List.getElem?_cons_zero]; rfl) (fun K hK => ?_) ?_
                  · go_simp
                    refine (concat2_any _ 2 a.L b.L W4 N2.out (by omega)).mono ?_
                    rintro e W5 ⟨YA, Yc, rfl, hx, hb⟩
                    go_wp2_with fail
                    have AP := Lib.hid (fun g (h1 : (Value.slice XA (a.C ++ b.C).length Xc).ownBlock = some g) (h2 : (Value.slice YA (a.L ++ b.L).length Yc).ownBlock = some g) => show False from by have := X.out.1.lt h1; have := hx.2 g h2; omega)
                    have Y := Lib.hid (show OwnAt w1.heap.size W5 YA Yc (a.L ++ b.L) from ⟨hx.1, fun g hg => Nat.le_trans KF.out.size (hx.2 g hg)⟩)
                    replace T := Lib.hid (T.out.up hb)
                    replace X := Lib.hid (X.out.up hb)
                    replace KF := Lib.hid (below_up KF.out hb)
                    clear hx hb
                    have hS := HS.out W5 KF.out
                    refine hK.out _ _ hS (fun _ => ?_)
                    clear hK K
                    (try simp only [Act.put, List.setIfInBounds_toArray, List.set_cons_zero, List.set_cons_succ])
                    refine wpAnyK_pure (i := 17) (v := ?_) (by simp only [List.getElem?_toArray, List.getElem?_cons_succ, List.getElem?_cons_zero]; rfl) (by kernel_rfl) (by kernel_rfl) (by kernel_rfl) rfl (fun _ _ _ h => h) (Or.inl ⟨by rfl, ?_⟩) (fun _ => hS) ?_
                    rotate_left
                    · intro w hSw; clear hSw; go_simp; try (with_reducible rfl)
                    (try simp only [Act.put, List.setIfInBounds_toArray, List.set_cons_zero, List.set_cons_succ])
                    refine wpAnyK_ready (rs := [19]) (by kernel_rfl) (by simp) ?_
                    refine AllReadyK.late (by simp only [List.getElem?_toArray, List.getElem?_cons_succ, List.getElem?_cons_zero]; rfl) (by kernel_rfl) (fun K hK => ?_) ?_
                    · have f0 := T.out.frozen 0
                      have f1 := T.out.frozen 1
                      have f2 := T.out.frozen 2
                      have d0 : W5.cell? ⟨W0.heap.size, 0, none⟩ = some (.slice none 0 0) := T.out.cell 0
                      have d1 : W5.cell? ⟨W0.heap.size, 1, none⟩ = some (.slice none 0 0) := T.out.cell 1
                      have d2 : W5.cell? ⟨W0.heap.size, 2, none⟩ = some (I64 0) := T.out.cell 2
                      go_simp
                      refine hK.out _ _ ?_
                      clear hK K
                      (try simp only [Act.put, List.setIfInBounds_toArray, List.set_cons_zero, List.set_cons_succ])
                      refine wpAnyK_done (by kernel_rfl) (NoPanic.normal ?_) _
                      go_wp2_with fail
                      go_meet
                      case rel => exact ⟨_, rfl, by have h := AddR.mk X.out Y.out AP.out T.out KF.out TN.out; simp only [List.length_append] at h; exact h⟩
                    exact AllReadyK.nil
                  exact AllReadyK.nil
                exact AllReadyK.nil
              exact AllReadyK.nil
            refine AllReadyK.cons (by simp only [List.getElem?_toArray, List.getElem?_cons_succ, List.getElem?_cons_zero]; rfl) (fun K hK => ?_) ?_
            · go_simp
              have hb := below1 W1 (.cells #[.slice L a.L.length cL, .slice L' b.L.length cL'] 22)
              have N2 := Lib.hid (rdn2 (HLA.out W1 KF.out).1.2.1 (HLA.out W1 KF.out).2.2.1 cL cL' 22)
              replace T := Lib.hid (T.out.up hb)
              replace KF := Lib.hid (below_up KF.out hb)
              generalize W1.alloc (.cells #[.slice L a.L.length cL, .slice L' b.L.length cL'] 22) = W2 at hb KF N2 T ⊢
              clear hb
              have hS := HS.out W2 KF.out
              refine hK.out _ _ hS (fun _ => ?_)
              clear hK K
              (try simp only [Act.put, List.setIfInBounds_toArray, List.set_cons_zero, List.set_cons_succ])
              refine wpAnyK_ready (rs := [4]) (by kernel_rfl) (by simp) ?_
              refine AllReadyK.cons (by simp only [List.getElem?_toArray, List.getElem?_cons_succ, List.getElem?_cons_zero]; rfl) (fun K hK => ?_) ?_
              · go_simp
                have hb := below1 W2 (.cells #[.slice A a.C.length cA, .slice A' b.C.length cA'] 22)
                have N1 := Lib.hid (rdn2 (HLA.out W2 KF.out).1.1 (HLA.out W2 KF.out).2.1 cA cA' 22)
                replace T := Lib.hid (T.out.up hb)
                replace N2 := Lib.hid (N2.out.up hb)
                replace KF := Lib.hid (below_up KF.out hb)
                generalize W2.alloc (.cells #[.slice A a.C.length cA, .slice A' b.C.length cA'] 22) = W3 at hb KF N1 T N2 ⊢
                clear hb
                have hS := HS.out W3 KF.out
                refine hK.out _ _ hS (fun _ => ?_)
                clear hK K
                (try simp only [Act.put, List.setIfInBounds_toArray, List.set_cons_zero, List.set_cons_succ])
                refine wpAnyK_ready (rs := [5]) (by kernel_rfl) (by simp) ?_
                refine AllReadyK.cons (by simp only [List.getElem?_toArray, List.getElem?_cons_succ, List.getElem?_cons_zero]; rfl) (fun K hK => ?_) ?_
                · go_simp
                  refine (concat2_any _ 2 a.C b.C W3 N1.out (by omega)).mono ?_
                  rintro e W4 ⟨XA, Xc, rfl, hx, hb⟩
                  go_wp2_with fail
                  have X := Lib.hid (show OwnAt w1.heap.size W4 XA Xc (a.C ++ b.C) from ⟨hx.1, fun g hg => Nat.le_trans KF.out.size (hx.2 g hg)⟩)
                  replace T := Lib.hid (T.out.up hb)
                  replace N2 := Lib.hid (N2.out.up hb)
                  replace KF := Lib.hid (below_up KF.out hb)
                  clear hx hb
                  have hS := HS.out W4 KF.out
                  refine hK.out _ _ hS (fun _ => ?_)
                  clear hK K
                  (try simp only [Act.put, List.setIfInBounds_toArray, List.set_cons_zero, List.set_cons_succ])
                  refine wpAnyK_ready (rs := [11]) (by kernel_rfl) (by simp) ?_
                  refine AllReadyK.cons (by simp only [List.getElem?_toArray, List.getElem?_cons_succ, List.getElem?_cons_zero]; rfl) (fun K hK => ?_) ?_
                  · go_simp
                    refine (concat2_any _ 2 a.L b.L W4 N2.out (by omega)).mono ?_
                    rintro e W5 ⟨YA, Yc, rfl, hx, hb⟩
                    go_wp2_with fail
                    have AP := Lib.hid (fun g (h1 : (Value.slice XA (a.C ++ b.C).length Xc).ownBlock = some g) (h2 : (Value.slice YA (a.L ++ b.L).length Yc).ownBlock = some g) => show False from by have := X.out.1.lt h1; have := hx.2 g h2; omega)
                    have Y := Lib.hid (show OwnAt w1.heap.size W5 YA Yc (a.L ++ b.L) from ⟨hx.1, fun g hg => Nat.le_trans KF.out.size (hx.2 g hg)⟩)
                    replace T := Lib.hid (T.out.up hb)
                    replace X := Lib.hid (X.out.up hb)
                    replace KF := Lib.hid (below_up KF.out hb)
                    clear hx hb
                    have hS := HS.out W5 KF.out
                    refine hK.out _ _ hS (fun _ => ?_)
                    clear hK K
                    (try simp only [Act.put, List.setIfInBounds_toArray, List.set_cons_zero, List.set_cons_succ])
                    refine wpAnyK_pure (i := 17) (v := ?_) (by simp only [List.getElem?_toArray, List.getElem?_cons_succ, List.getElem?_cons_zero]; rfl) (by kernel_rfl) (by kernel_rfl) (by kernel_rfl) rfl (fun _ _ _ h => h) (Or.inl ⟨by rfl, ?_⟩) (fun _ => hS) ?_
                    rotate_left
                    · intro w hSw; clear hSw; go_simp; try (with_reducible rfl)
                    (try simp only [Act.put, List.setIfInBounds_toArray, List.set_cons_zero, List.set_cons_succ])
                    refine wpAnyK_ready (rs := [19]) (by kernel_rfl) (by simp) ?_
                    refine AllReadyK.late (by simp only [List.getElem?_toArray, List.getElem?_cons_succ, List.getElem?_cons_zero]; rfl) (by kernel_rfl) (fun K hK => ?_) ?_
                    · have f0 := T.out.frozen 0
                      have f1 := T.out.frozen 1
                      have f2 := T.out.frozen 2
                      have d0 : W5.cell? ⟨W0.heap.size, 0, none⟩ = some (.slice none 0 0) := T.out.cell 0
                      have d1 : W5.cell? ⟨W0.heap.size, 1, none⟩ = some (.slice none 0 0) := T.out.cell 1
                      have d2 : W5.cell? ⟨W0.heap.size, 2, none⟩ = some (I64 0) := T.out.cell 2
                      go_simp
                      refine hK.out _ _ ?_
                      clear hK K
                      (try simp only [Act.put, List.setIfInBounds_toArray, List.set_cons_zero, List.set_cons_succ])
                      refine wpAnyK_done (by kernel_rfl) (NoPanic.normal ?_) _
                      go_wp2_with fail
                      go_meet
                      case rel => exact ⟨_, rfl, by have h := AddR.mk X.out Y.out AP.out T.out KF.out TN.out; simp only [List.length_append] at h; exact h⟩
                    exact AllReadyK.nil
                  exact AllReadyK.nil
                exact AllReadyK.nil
              exact AllReadyK.nil
            exact AllReadyK.nil
          exact AllReadyK.nil
        case rest =>
          obtain ⟨n, rfl, A1, c1, A2, c2, hx, hy, hap, ht, hk, hn⟩ := hcut
          have HX := Lib.hid hx
          have HY := Lib.hid hy
          have HAp := Lib.hid hap
          have HT := Lib.hid ht
          have HK := Lib.hid hk
          have t0 : wc.cell? ⟨n, 0, none⟩ = some (.slice A1 (a.C ++ b.C).length c1) := ht.cell 0
          have t1 : wc.cell? ⟨n, 1, none⟩ = some (.slice A2 (a.L ++ b.L).length c2) := ht.cell 1
          have t2 : wc.cell? ⟨n, 2, none⟩ = some (I64 (a.B + b.B)) := ht.cell 2
          have HE3 := Lib.hid (HD3.out.up hk)
          have f0 := HE3.out.frozen 0
          have f1 := HE3.out.frozen 1
          have f2 := HE3.out.frozen 2
          have d0 : wc.cell? ⟨w.heap.size + 1 + 1, 0, none⟩ = some (.slice none 0 0) := HE3.out.cell 0
          have d1 : wc.cell? ⟨w.heap.size + 1 + 1, 1, none⟩ = some (.slice none 0 0) := HE3.out.cell 1
          have d2 : wc.cell? ⟨w.heap.size + 1 + 1, 2, none⟩ = some (I64 0) := HE3.out.cell 2
          have hl3 := HD3.out.lt
          have hnp : ¬ w.heap.size + 1 + 1 = n := by omega
          have hsz := HBw.out.size
          clear hx hy hap ht hk
          by_cases h4 : 4096 < a.L.length + b.L.length
          · have HN := Lib.hid (show addP a b = (lin0, 2) by rw [addP, if_neg (by simpa using HZ1.out), if_neg (by simpa using HZ2.out), if_pos (.inl h4)])
            have e4 : decide (4096 < ((a.L ++ b.L).length : Int)) = true := by simp; omega
            go_wp2_with fail
            refine bodyPost_ret (results_cell_row2 rfl _ _ (w.heap.size + 1 + 1) 24 #[.slice none 0 0, .slice none 0 0, I64 0] (0, 0) _ rfl (blkSet3 HE3.out _ _ _) Try.underlying24 rfl linInfo) rfl ?_
            exact ⟨none, none, 0, 0, by rw [HN.out]; rfl, by rw [HN.out]; exact OwnLin.nil _ _ _, belowSet3 (below_up HBw.out HK.out) (by omega) _ _ _⟩
          · have e4 : decide (4096 < ((a.L ++ b.L).length : Int)) = false := by simp; omega
            go_wp2_with fail
            refine (within_any (a.B + b.B) _).mono ?_
            rintro e w9 ⟨rfl, rfl⟩
            cases ho : offN (a.B + b.B) with
            | true =>
              have HN := Lib.hid (show addP a b = (lin0, 2) by rw [addP, if_neg (by simpa using HZ1.out), if_neg (by simpa using HZ2.out), if_pos (.inr ho)])
              clear ho
              go_wp2_with fail
              refine bodyPost_ret (results_cell_row2 rfl _ _ (w.heap.size + 1 + 1) 24 #[.slice none 0 0, .slice none 0 0, I64 0] (0, 0) _ rfl (blkSet3 HE3.out _ _ _) Try.underlying24 rfl linInfo) rfl ?_
              exact ⟨none, none, 0, 0, by rw [HN.out]; rfl, by rw [HN.out]; exact OwnLin.nil _ _ _, belowSet3 (below_up HBw.out HK.out) (by omega) _ _ _⟩
            | false =>
              have HN := Lib.hid (show addP a b = (⟨a.C ++ b.C, a.L ++ b.L, a.B + b.B⟩, 0) by rw [addP, if_neg (by simpa using HZ1.out), if_neg (by simpa using HZ2.out), if_neg (by rw [ho]; simp; omega)])
              clear ho
              go_wp2_with fail
              refine bodyPost_ret (results_cell_row2 rfl _ _ (w.heap.size + 1 + 1) 24 #[.slice A1 (a.C ++ b.C).length c1, .slice A2 (a.L ++ b.L).length c2, I64 (a.B + b.B)] (0, 0) _ rfl (by have h := blkSet3 HE3.out (.slice A1 (a.C ++ b.C).length c1) (.slice A2 (a.L ++ b.L).length c2) (I64 (a.B + b.B)); simp only [List.length_append] at h ⊢; exact h) Try.underlying24 rfl linInfo) rfl ?_
              refine ⟨A1, A2, c1, c2, by rw [HN.out]; rfl, ?_, belowSet3 (below_up HBw.out HK.out) (by omega) _ _ _⟩
              rw [HN.out]
              refine ⟨HX.out.1.set3 (HX.out.1.ne_blk HE3.out (by decide)) _ _ _, HY.out.1.set3 (HY.out.1.ne_blk HE3.out (by decide)) _ _ _, HAp.out, fun g hg => Nat.le_trans hsz (HX.out.2 g hg), fun g hg => Nat.le_trans hsz (HY.out.2 g hg), ?_⟩
              have h5 := KL.out
              simp only [List.length_append]
              omega
    | n + 3, h => exact absurd h (by omega)
end Go.Proofs.Ytibfgeoiemmjoaa
