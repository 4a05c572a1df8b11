/- Lemmas and contracts for the row. -/
import Derived.Test.YtkkapbnopmmmjaaGreatDoorPkRowEncodeMatchesU
import Derived.Test.YtkkapbnopmmmjaaGreatDoorPkRowEncodeMatchesO
import Derived.Laws.Rows
import Derived.BigQuiet
set_option linter.unusedVariables false
set_option linter.unusedSimpArgs false
set_option linter.unnecessarySimpa false
namespace Go.Proofs.YtkkapbnopmmmjaaGreatDoor
open Go.RowKit Go.Shelf
attribute [local go_sem ↓] Go.wp_at_zero Go.wp_at_succ
def q2t (l : q2j) (vs : List Int) : List Int := (q0p l vs).map (·.1)
def q3d (l : q2j) (vs : List Int) : List Int := (q0p l vs).map (·.2)
structure z5g (B : Nat) (w : World) (A L : Option Addr) (cA cL : Nat) (l : q2j) : Prop where
 c : Own w 3 (.slice A l.C.length cA) (l.C.map I64)
 li : Own w 3 (.slice L l.L.length cL) (l.L.map I64)
 apart : ∀ g, (Value.slice A l.C.length cA).ownBlock = some g → (Value.slice L l.L.length cL).ownBlock ≠ some g
 cB : ∀ g, (Value.slice A l.C.length cA).ownBlock = some g → B ≤ g
 lB : ∀ g, (Value.slice L l.L.length cL).ownBlock = some g → B ≤ g
 len : l.C.length ≤ 4096 ∧ l.L.length ≤ 4096
theorem z5g.nil (B : Nat) (w : World) (b : Int) : z5g B w none none 0 0 ⟨[], [], b⟩ := ⟨Own.nil _ _, Own.nil _ _, fun g h => (by cases h), fun g h => (by cases h), fun g h => (by cases h), ⟨by simp, by simp⟩⟩
def x1j (l : q2j) (w : World) (e : Ending) (w' : World) : Prop := ∃ A' L' cA' cL', e = .returned (x2k A' L' cA' cL' (q0b l)) ∧ z5g w.heap.size w' A' L' cA' cL' (q0b l) ∧ Below w.heap.size w w'
theorem z9b {w : World} {g : Nat} {t : TypeId} {a b c : Value} (h : Blk w g t #[a, b, c]) (x y z : Value) : Blk (((w.setCell ⟨g, 0, none⟩ x).setCell ⟨g, 1, none⟩ y).setCell ⟨g, 2, none⟩ z) g t #[x, y, z] := by
 simpa using ((h.set_ 0 x).set_ 1 y).set_ 2 z
theorem z0b {B : Nat} {wo w : World} {g : Nat} (h : Below B wo w) (hg : B ≤ g) (x y z : Value) : Below B wo (((w.setCell ⟨g, 0, none⟩ x).setCell ⟨g, 1, none⟩ y).setCell ⟨g, 2, none⟩ z) :=
 ((h.setCell (p := ⟨g, 0, none⟩) hg x).setCell (p := ⟨g, 1, none⟩) hg y).setCell (p := ⟨g, 2, none⟩) hg z
theorem j1y : (Tryz.prog.info? 24).map (·.size) = some 3 := by kernel_rfl
theorem Own.set3 {w : World} {g : Nat} {e : TypeId} {v : Value} {xs : List Value} (h : Own w e v xs) (hg : v.ownBlock ≠ some g) (x y z : Value) : Own (((w.setCell ⟨g, 0, none⟩ x).setCell ⟨g, 1, none⟩ y).setCell ⟨g, 2, none⟩ z) e v xs :=
 ((h.far (p := ⟨g, 0, none⟩) hg x).far (p := ⟨g, 1, none⟩) hg y).far (p := ⟨g, 2, none⟩) hg z
theorem j9t (l : q2j) (vs : List Int) : (q2t l vs).zip (q3d l vs) = q0p l vs := by
 unfold q2t q3d
 rw [z9e]
 simp
theorem z9i (l : q2j) (vs : List Int) : (q2t l vs).length = (q3d l vs).length := by simp [q2t, q3d]
theorem x2l (l : q2j) (vs : List Int) (M : Int) (h : q0v (q0p l vs) ≤ M) : (∀ k, 0 ≤ q0v (((q2t l vs).zip (q3d l vs)).take k) ∧ q0v (((q2t l vs).zip (q3d l vs)).take k) ≤ M) ∧ ∀ c ∈ q2t l vs, 0 < c ∧ c ≤ M := by
 rw [j9t]
 refine ⟨fun k => ?_, fun c hc => ?_⟩
 · have := q7g (q0p l vs) k (q6n l vs)
   omega
 · obtain ⟨q, hq, rfl⟩ := List.mem_map.1 hc
   have h1 := q6n l vs q hq
   have h2 := z2d (q0p l vs) q (q6n l vs) hq
   exact ⟨h1, Int.le_trans h2 h⟩
theorem k6t (x y : Value) (w : World) : (Instr.index 114 (.agg #[x, y]) (.int .i64 0)).run Tryz.prog w = .ok x w := by kernel_rfl
theorem k7g (x y : Value) (w : World) : (Instr.index 114 (.agg #[x, y]) (.int .i64 1)).run Tryz.prog w = .ok y w := by kernel_rfl
theorem x5v {l : q2j} (h : q0m l 65536 = 0) (x : Int) : -4503599627370496 ≤ cfZ (l.C.zip l.L) x ∧ cfZ (l.C.zip l.L) x ≤ 4503599627370496 := by
 obtain ⟨_, _, hl, _, hc, hx, hn⟩ := q1d h
 have h1 := y0t 1099511627776 (by decide) x (l.C.zip l.L) (fun q hq => hc q.1 (List.of_mem_zip hq).1)
 have h2 : (l.C.zip l.L).length ≤ 4096 := by rw [List.length_zip]; omega
 omega
set_option maxRecDepth 100000 in
set_option maxHeartbeats 1600000 in
theorem x1q (A L : Option Addr) (cA cL : Nat) (l : q2j) (w : World) (h : z6n w A L l) :
 Calls Tryz.prog 33 #[x2k A L cA cL l] w (x1j l w) := by
 have H := Lib.hid h
 clear h
 go_enter Tryz.func33, Tryz.ntmps33
 go_wp2_with fail
 have HBw := Lib.hid (z8p w (Obj.cells #[Value.slice A l.C.length cA, Value.slice L l.L.length cL, I64 l.B] 24) (Obj.cells #[.slice none 0 0, .slice none 0 0, I64 0] 24))
 have HD1 := Lib.hid ((Blk.new w 24 #[Value.slice A l.C.length cA, Value.slice L l.L.length cL, I64 l.B]).alloc (Obj.cells #[.slice none 0 0, .slice none 0 0, I64 0] 24))
 have HD2 := Lib.hid (k8q w (Obj.cells #[Value.slice A l.C.length cA, Value.slice L l.L.length cL, I64 l.B] 24) 24 #[.slice none 0 0, .slice none 0 0, I64 0])
 generalize hw1 : (w.alloc (Obj.cells #[Value.slice A l.C.length cA, Value.slice L l.L.length cL, I64 l.B] 24)).alloc (Obj.cells #[.slice none 0 0, .slice none 0 0, I64 0] 24) = w1 at HBw HD1 HD2 ⊢
 clear hw1
 refine (x0b A L cA cL l w1 (H.out.up HBw.out)).mono ?_
 rintro e w2 ⟨rfl, b2⟩
 have B2 := Lib.hid b2
 have B3 := Lib.hid (q2h HBw.out b2)
 have HE1 := Lib.hid (show Blk w2 w.heap.size 24 #[Value.slice A l.C.length cA, Value.slice L l.L.length cL, I64 l.B] from (b2.block _ HD1.out.lt).trans HD1.out)
 have HE2 := Lib.hid (show Blk w2 (w.heap.size + 1) 24 #[.slice none 0 0, .slice none 0 0, I64 0] from (b2.block _ HD2.out.lt).trans HD2.out)
 clear b2 HD1 HD2
 by_cases hz : q0m l 65536 = 0
 · rw [hz]
   have hmm := @run_makeMap Tryz.prog
   have c0 : w2.cell? ⟨w.heap.size, 0, none⟩ = some (.slice A l.C.length cA) := HE1.out.cell 0
   have c1 : w2.cell? ⟨w.heap.size, 1, none⟩ = some (.slice L l.L.length cL) := HE1.out.cell 1
   have c2 : w2.cell? ⟨w.heap.size, 2, none⟩ = some (I64 l.B) := HE1.out.cell 2
   go_wp2_with fail
   clear hmm c0 c1 c2
   refine (y7n A L cA cL w2.heap.size l (w2.alloc (.map #[] 0)) ((H.out.up B3.out).up (q6e _ _)) hz (q5f.made w2) ⟨_, World.ownsMap_made w2 Tryz.prog 3 R0⟩).mono ?_
   rintro e w4 ⟨rfl, hm4, hf4, hk4⟩
   have HM4 := Lib.hid hm4
   have HF4 := Lib.hid hf4
   have B4 := Lib.hid (show Below w2.heap.size w2 w4 from (q6e w2 (.map #[] 0)).trans (hk4.below (fun k h1 _ => by omega) (by simp)))
   clear hm4 hf4 hk4
   have c2 : w4.cell? ⟨w.heap.size, 2, none⟩ = some (I64 l.B) := (B4.out.cell (p := ⟨w.heap.size, 2, none⟩) HE1.out.lt).trans (HE1.out.cell 2)
   have HE4 := Lib.hid (show Blk w4 (w.heap.size + 1) 24 #[.slice none 0 0, .slice none 0 0, I64 0] from (B4.out.block _ HE2.out.lt).trans HE2.out)
   have B5 := Lib.hid (q2h B3.out B4.out)
   have hlt4 := HE4.out.lt
   clear B3 HE2 HE1 B2
   go_wp2_with fail
   have HW5 := Lib.hid (show q5f (w4.alloc (Obj.cells #[Value.slice none 0 0, Value.slice none 0 0, I64 l.B] 118)) w2.heap.size (z0t (l.C.zip l.L)) ∧ Fits (w4.alloc (Obj.cells #[Value.slice none 0 0, Value.slice none 0 0, I64 l.B] 118)) w2.heap.size l.L.length from
    ⟨HM4.out.kp ((Kp.refl (fun _ => False) w4).alloc _) (fun h => h), HF4.out.kp ((Kp.refl (fun _ => False) w4).alloc _) (fun h => h)⟩)
   have HK5 := Lib.hid (q6e w4 (Obj.cells #[Value.slice none 0 0, Value.slice none 0 0, I64 l.B] 118))
   have HP5 := Lib.hid (Blk.new w4 118 #[Value.slice none 0 0, Value.slice none 0 0, I64 l.B])
   generalize w4.alloc (Obj.cells #[Value.slice none 0 0, Value.slice none 0 0, I64 l.B] 118) = w5 at HW5 HK5 HP5 ⊢
   refine (x2x w2.heap.size _).mono ?_
   rintro e w6 ⟨rfl, rfl⟩
   go_wp2_with fail
   refine (y2j w2.heap.size l.L.length (z0t (l.C.zip l.L)) w5 HW5.out.1 HW5.out.2 (by have := (q1d hz).2.2.2.2.2.2; omega)).mono ?_
   rintro e w7 ⟨A7, c7, vs, rfl, hinc, hmem, _, hrd, hb7⟩
   obtain rfl : vs = q0a l.L := y9a hinc (z4v _) (fun v => by
    rw [hmem v, z0t, k0z (q1d hz).2.2.1]
    by_cases hv : v ∈ q0a l.L <;> simp [hv])
   have HR7 := Lib.hid hrd
   have HB7 := Lib.hid (show Bld w7.heap.size w7 w7 w4.heap.size (.slice none 0 0) (.slice none 0 0) [] [] l.B from by
    have h2 := q2h (q6e w5 (.cells #[.map (some w2.heap.size)] 112)) hb7
    exact ⟨Kp.refl _ _, (h2.block _ HP5.out.lt).trans HP5.out, Own.nil _ _, Own.nil _ _, fun g h => (by cases h), Nat.le_refl _, fun g h => (by cases h), fun g h => (by cases h)⟩)
   have HK7 := Lib.hid (q2h HK5.out (q2h (q6e w5 (.cells #[.map (some w2.heap.size)] 112)) hb7))
   have hvl : (q0a l.L).length ≤ 4096 := Nat.le_trans (z0l _) (q1d hz).2.2.2.2.2.2
   have HQ := Lib.hid (show ∀ wr, Kp (fun k => k = w4.heap.size ∨ w7.heap.size ≤ k) w7 wr → q5f wr w2.heap.size (z0t (l.C.zip l.L)) ∧ Own wr 3 (.slice A7 (q0a l.L).length c7) ((q0a l.L).map I64) ∧ Blk wr (w.heap.size + 1) 24 #[.slice none 0 0, .slice none 0 0, I64 0] ∧ Below w.heap.size w wr from fun wr hk => by
    have hM : q5f w7 w2.heap.size (z0t (l.C.zip l.L)) := HM4.out.kp (Kp.of_below HK7.out) (by have := HM4.out.lt; omega)
    have hE : Blk w7 (w.heap.size + 1) 24 #[.slice none 0 0, .slice none 0 0, I64 0] := (HK7.out.block _ HE4.out.lt).trans HE4.out
    have n1 : w2.heap.size ≠ w4.heap.size := hM.ne_blk HB7.out.blk
    have n2 : w.heap.size + 1 ≠ w4.heap.size := hE.ne_ HB7.out.blk (by decide)
    have n3 := HR7.out.ne_blk HB7.out.blk (by decide)
    refine ⟨hM.kp hk ?_, HR7.out.kp hk ?_, hE.kp hk ?_, ?_⟩
    · rintro (e | e)
      · exact n1 e
      · have := hM.lt; omega
    · rintro g hg (e | e)
      · rw [e] at hg; exact n3 hg
      · have := HR7.out.lt hg; omega
    · rintro (e | e)
      · exact n2 e
      · have := hE.lt; omega
    · have h1 := HE4.out.lt
      have h2 := HK7.out.size
      exact (q2h B5.out HK7.out).trans (hk.below (fun k h3 _ h4 => by omega) (by omega)))
   have K7 := Lib.hid (q1d hz).2.2.2.2.2.1
   have HZ := Lib.hid hz
   clear hinc hmem hrd hb7 HW5 HK5 HP5 c2 HK7 HR7 HE4 HM4 HF4 B4 B5 hlt4 H HBw hz
   generalize w4.heap.size = p at HB7 HQ ⊢
   generalize w2.heap.size = m at HQ ⊢
   go_wp2_with fail
   go_loopw [6, 7, 8, 26] (fun _ _ _ iv wr => ∃ (i : Nat) (cv lv : Value), iv = .int .i64 i ∧ i ≤ (q0a l.L).length ∧ Bld w7.heap.size w7 wr p cv lv (q2t l ((q0a l.L).take i)) (q3d l ((q0a l.L).take i)) (l.B - q1o l ((q0a l.L).take i))) (fun _ _ _ iv _ => (q0a l.L).length - (intOf iv).toNat)
   case atStart => exact ⟨0, _, _, rfl, Nat.zero_le _, by simpa [q2t, q3d, q0p, q1o] using HB7.out⟩
   case round =>
    obtain ⟨i, cv, lv, rfl, hi, hbl⟩ := hrel
    have HB := Lib.hid hbl
    clear hbl
    by_cases hlt : i < (q0a l.L).length
    · obtain ⟨hM, hO, _, _⟩ := HQ.out wr HB.out.k
      have hO1 := hO
      obtain ⟨g7, o7, eA⟩ := hO1.addr (by omega)
      have hv := j8k K7.out _ (List.getElem_mem hlt)
      have hcell : wr.cell? ⟨g7, o7 + i, none⟩ = some (I64 (q0a l.L)[i]) := by
       rw [eA] at hO
       have := hO.at_ (i := i) (by simpa using hlt)
       simpa using this.1
      have hlk := q7s (P := Tryz.prog) 112 3 114 (q3n 0 0) Tryz.underlying112 Tryz.underlying3 k3v (show q5f wr.drew m _ from hM.kp (Kp.refl (fun _ => False) wr).drew (fun h => h)) (q0a l.L)[i]
      rw [y1y _ _ (by omega)] at hlk
      have hba := x5v HZ.out (q0a l.L)[i]
      have hbb := x5v HZ.out (-(q0a l.L)[i])
      have hmb := j7e HZ.out i
      have hBb := (q1d HZ.out).2.2.2.1
      have c2 : wr.cell? ⟨p, 2, none⟩ = some (I64 (l.B - q1o l ((q0a l.L).take i))) := HB.out.blk.cell 2
      have f2 : wr.frozen? ⟨p, 2, none⟩ = false := HB.out.blk.frozen 2
      have HS1 := Lib.hid (show q1o l ((q0a l.L).take (i + 1)) = q1o l ((q0a l.L).take i) + min (cfZ (l.C.zip l.L) (q0a l.L)[i]) (cfZ (l.C.zip l.L) (-(q0a l.L)[i])) by rw [List.take_succ_eq_append_getElem hlt, z1m]; rfl)
      have HS2 := Lib.hid (show q0p l ((q0a l.L).take (i + 1)) = q0p l ((q0a l.L).take i) ++ q4f (cfZ (l.C.zip l.L) (q0a l.L)[i]) (cfZ (l.C.zip l.L) (-(q0a l.L)[i])) (q0a l.L)[i] by rw [List.take_succ_eq_append_getElem hlt, z5l]; rfl)
      have hlen1 : (q2t l ((q0a l.L).take i)).length ≤ 1000000 := by
       have := q6m l ((q0a l.L).take i)
       simp only [q2t, List.length_map, List.length_take] at this ⊢
       omega
      have hlen2 : (q3d l ((q0a l.L).take i)).length ≤ 1000000 := by simpa [q2t, q3d] using hlen1
      subst eA
      clear hM hO hO1
      generalize (q0a l.L)[i] = v at hv hcell hlk hba hbb HS1 HS2
      generalize cfZ (l.C.zip l.L) v = a at hlk hba HS1 HS2
      generalize cfZ (l.C.zip l.L) (-v) = b at hlk hbb HS1 HS2
      have HB1 := Lib.hid (HB.out.set2 (l.B - q1o l ((q0a l.L).take i) - min a b)).drew
      generalize hbi : l.B - q1o l ((q0a l.L).take i) = bi at c2 HB HB1
      obtain ⟨hv1, hv2⟩ := hv
      obtain ⟨ha1, ha2⟩ := hba
      obtain ⟨hb1, hb2⟩ := hbb
      have hbi1 : -10000000000000000 ≤ bi := by omega
      have hbi2 : bi ≤ 10000000000000000 := by omega
      have HBi := Lib.hid hbi
      clear hbi hmb hBb
      unfold q3n at hlk
      have hp0 := k6t
      have hp1 := k7g
      go_wp2_with fail
      go_region
      clear hlk hp0 hp1 hcell
      go_wp2_with fail
      refine (j7q _ _ _).mono ?_
      rintro e w9 ⟨rfl, rfl⟩
      generalize (wr.setCell ⟨p, 2, none⟩ (I64 (bi - min a b))).drew = wx at HB1 ⊢
      have HE := Lib.hid (show l.B - q1o l ((q0a l.L).take (i + 1)) = bi - min a b by rw [HS1.out, ← HBi.out]; omega)
      clear c2 f2 HB
      rcases Int.lt_trichotomy a b with hab | hab | hab
      · rw [if_pos hab]
        have HT1 := Lib.hid (show q2t l ((q0a l.L).take (i + 1)) = q2t l ((q0a l.L).take i) ++ [b - a] by rw [q2t, HS2.out, q4f, if_neg (by omega), if_pos hab]; simp [q2t])
        have HT2 := Lib.hid (show q3d l ((q0a l.L).take (i + 1)) = q3d l ((q0a l.L).take i) ++ [-v] by rw [q3d, HS2.out, q4f, if_neg (by omega), if_pos hab]; simp [q3d])
        go_wp2_with fail
        refine (y0l _ p cv lv _ _ _ (b - a) (-v) w7 wx HB1.out hlen1 hlen2).mono ?_
        rintro e wy ⟨rfl, cv', lv', hby⟩
        have HBY := Lib.hid hby
        clear hby
        go_wp2_with fail
        go_roundw
        case rel => exact ⟨i + 1, cv', lv', by go_num, by omega, by rw [HT1.out, HT2.out, HE.out]; exact HBY.out⟩
        case measure => simp [intOf]; omega
      · have hab1 : ¬ a < b := by omega
        have hab2 : ¬ b < a := by omega
        rw [if_neg hab1, if_neg hab2]
        have HT1 := Lib.hid (show q2t l ((q0a l.L).take (i + 1)) = q2t l ((q0a l.L).take i) by rw [q2t, HS2.out, q4f, if_neg hab2, if_neg hab1]; simp [q2t])
        have HT2 := Lib.hid (show q3d l ((q0a l.L).take (i + 1)) = q3d l ((q0a l.L).take i) by rw [q3d, HS2.out, q4f, if_neg hab2, if_neg hab1]; simp [q3d])
        go_wp2_with fail
        go_roundw
        case rel => exact ⟨i + 1, cv, lv, by go_num, by omega, by rw [HT1.out, HT2.out, HE.out]; exact HB1.out⟩
        case measure => simp [intOf]; omega
      · have hab1 : ¬ a < b := by omega
        rw [if_neg hab1, if_pos hab]
        have HT1 := Lib.hid (show q2t l ((q0a l.L).take (i + 1)) = q2t l ((q0a l.L).take i) ++ [a - b] by rw [q2t, HS2.out, q4f, if_pos hab]; simp [q2t])
        have HT2 := Lib.hid (show q3d l ((q0a l.L).take (i + 1)) = q3d l ((q0a l.L).take i) ++ [v] by rw [q3d, HS2.out, q4f, if_pos hab]; simp [q3d])
        go_wp2_with fail
        refine (y0l _ p cv lv _ _ _ (a - b) v w7 wx HB1.out hlen1 hlen2).mono ?_
        rintro e wy ⟨rfl, cv', lv', hby⟩
        have HBY := Lib.hid hby
        clear hby
        go_wp2_with fail
        go_roundw
        case rel => exact ⟨i + 1, cv', lv', by go_num, by omega, by rw [HT1.out, HT2.out, HE.out]; exact HBY.out⟩
        case measure => simp [intOf]; omega
    · obtain rfl : i = (q0a l.L).length := by omega
      rw [List.take_length] at HB
      obtain ⟨Ac, cc, ecv, _, _⟩ := HB.out.c.rd
      obtain ⟨Al, cl, elv, _, _⟩ := HB.out.l.rd
      subst ecv elv
      have hsum := z3g HZ.out (q0a l.L).length
      rw [List.take_length] at hsum
      have hmb := j7e HZ.out (q0a l.L).length
      rw [List.take_length] at hmb
      have hBb := (q1d HZ.out).2.2.2.1
      have hbn1 : -10000000000000000 ≤ l.B - q1o l (q0a l.L) := by omega
      have hbn2 : l.B - q1o l (q0a l.L) ≤ 10000000000000000 := by omega
      have HNw := Lib.hid (show q0b l = z4o l by rw [q0b, if_pos HZ.out])
      have HND := Lib.hid (show z4o l = if l.B - q1o l (q0a l.L) ≤ 0 then y5w else if q0v (q0p l (q0a l.L)) < l.B - q1o l (q0a l.L) then ⟨[], [], 1⟩ else ⟨(q0p l (q0a l.L)).map fun q => min q.1 (l.B - q1o l (q0a l.L)), q3d l (q0a l.L), l.B - q1o l (q0a l.L)⟩ from rfl)
      generalize l.B - q1o l (q0a l.L) = bn at HB HND hbn1 hbn2
      have c2 : wr.cell? ⟨p, 2, none⟩ = some (I64 bn) := HB.out.blk.cell 2
      clear hmb hBb
      have HE := Lib.hid (HQ.out wr HB.out.k).2.2.1
      have HBl := Lib.hid (HQ.out wr HB.out.k).2.2.2
      have HB2 := Lib.hid (HB.out.alloc (.cells #[I64 bn] 3))
      have HE2 := Lib.hid (HE.out.alloc (.cells #[I64 bn] 3))
      have HQ2 := Lib.hid (Blk.new wr 3 #[I64 bn])
      have HBl2 := Lib.hid (q2h HBl.out (q6e wr (.cells #[I64 bn] 3)))
      have f0 := HE2.out.frozen 0
      have f1 := HE2.out.frozen 1
      have f2 := HE2.out.frozen 2
      have d0 : (wr.alloc (.cells #[I64 bn] 3)).cell? ⟨w.heap.size + 1, 0, none⟩ = some (.slice none 0 0) := HE2.out.cell 0
      have d1 : (wr.alloc (.cells #[I64 bn] 3)).cell? ⟨w.heap.size + 1, 1, none⟩ = some (.slice none 0 0) := HE2.out.cell 1
      have d2 : (wr.alloc (.cells #[I64 bn] 3)).cell? ⟨w.heap.size + 1, 2, none⟩ = some (I64 0) := HE2.out.cell 2
      by_cases hb0 : bn ≤ 0
      · have HN := Lib.hid (show q0b l = y5w by rw [HNw.out, HND.out, if_pos hb0])
        go_wp2_with fail
        refine bodyPost_ret (results_cell_row rfl _ _ (w.heap.size + 1) 24 #[.slice none 0 0, .slice none 0 0, I64 0] (0, 0) _ rfl (z9b HE2.out _ _ _) Tryz.underlying24 rfl j1y) rfl ?_
        refine ⟨none, none, 0, 0, by rw [HN.out]; rfl, by rw [HN.out]; exact z5g.nil _ _ _, z0b HBl2.out (by omega) _ _ _⟩
      · clear f0 f1 f2 d0 d1 d2
        have HCq := Lib.hid (show ∀ wx, Below (wr.alloc (.cells #[I64 bn] 3)).heap.size (wr.alloc (.cells #[I64 bn] 3)) wx → wx.cell? ⟨wr.heap.size, 0, none⟩ = some (I64 bn) from fun wx hx => (hx.cell (p := ⟨wr.heap.size, 0, none⟩) HQ2.out.lt).trans (HQ2.out.cell 0))
        have htl : (q3d l (q0a l.L)).length ≤ 4096 := by
         have := q6m l (q0a l.L)
         simp only [q3d, List.length_map]
         omega
        obtain ⟨ht1, ht2⟩ := x2l l (q0a l.L) 4503599627370496 hsum.2
        have hall := x7r _ p _ _ _ _ _ w7 _ HB2.out.drew (z9i l (q0a l.L)) (by omega) (fun k => by have := ht1 k; omega) (fun c hc => by have := ht2 c hc; omega)
        rw [j9t] at hall
        have HAl := Lib.hid hall
        have HT2 := Lib.hid ht2
        clear hall ht1 ht2
        have hqp : wr.heap.size ≠ p := by have := HB.out.blk.lt; omega
        have HQc := Lib.hid (fun g (hg : (Value.slice Ac (q2t l (q0a l.L)).length cc).ownBlock = some g) => show g ≠ wr.heap.size from by have := HB.out.c.lt hg; omega)
        go_wp2_with fail
        clear HB HE HBl c2
        generalize wr.alloc (.cells #[I64 bn] 3) = wq at HB2 HE2 HQ2 HBl2 HCq HAl ⊢
        generalize wr.heap.size = q at HQ2 HCq hqp HQc ⊢
        have cq := HCq.out wq (Below.refl _ _)
        go_region_held3 (fun w' => w'.cell? ⟨q, 0, none⟩ = some (I64 bn)) (first | go_keep | (exact HCq.out _ BA.out))
         (first | (go_at_call 81; refine HAl.out.mono ?_; rintro e wa ⟨rfl, ba⟩; have BA := Lib.hid (q2h (y2n (Below.refl _ _)) ba); clear ba))
        have HB3 := Lib.hid (HB2.out.below BA.out)
        have HE3 := Lib.hid (show Blk wa (w.heap.size + 1) 24 #[.slice none 0 0, .slice none 0 0, I64 0] from (BA.out.block _ HE2.out.lt).trans HE2.out)
        have HBl3 := Lib.hid (q2h HBl2.out BA.out)
        have cq3 := HCq.out wa BA.out
        have HQ3 := Lib.hid (show Blk wa q 3 #[I64 bn] from (BA.out.block _ HQ2.out.lt).trans HQ2.out)
        clear HB2 HE2 HBl2 HCq HQ2 cq HAl BA
        by_cases hs : q0v (q0p l (q0a l.L)) < bn
        · have HN := Lib.hid (show q0b l = ⟨[], [], 1⟩ by rw [HNw.out, HND.out, if_neg (show ¬ bn ≤ 0 by omega), if_pos hs])
          have f0 := HE3.out.frozen 0
          have f1 := HE3.out.frozen 1
          have f2 := HE3.out.frozen 2
          have d0 : wa.cell? ⟨w.heap.size + 1, 0, none⟩ = some (.slice none 0 0) := HE3.out.cell 0
          have d1 : wa.cell? ⟨w.heap.size + 1, 1, none⟩ = some (.slice none 0 0) := HE3.out.cell 1
          have d2 : wa.cell? ⟨w.heap.size + 1, 2, none⟩ = some (I64 0) := HE3.out.cell 2
          go_wp2_with fail
          refine bodyPost_ret (results_cell_row rfl _ _ (w.heap.size + 1) 24 #[.slice none 0 0, .slice none 0 0, I64 1] (0, 0) _ rfl (z9b HE3.out _ _ _) Tryz.underlying24 rfl j1y) rfl ?_
          exact ⟨none, none, 0, 0, by rw [HN.out]; rfl, by rw [HN.out]; exact z5g.nil _ _ _, z0b HBl3.out (by omega) _ _ _⟩
        · have HN := Lib.hid (show q0b l = ⟨(q2t l (q0a l.L)).map (fun c => min c bn), q3d l (q0a l.L), bn⟩ by rw [HNw.out, HND.out, if_neg (show ¬ bn ≤ 0 by omega), if_neg hs, q2t, List.map_map]; rfl)
          go_wp2_with fail
          refine (x4q 83 [.pointer (some ⟨q, 0, none⟩)] (fun c => min c bn) _ p _ _ _ _ bn w7 wa HB3.out (by rw [z9i]; omega) (enters_of Tryz.func83 (by kernel_rfl) rfl) (fun c _ wx hk => y5m q c bn wx ((hk.cell (p := ⟨q, 0, none⟩) HQ3.out.lt (fun h => h.elim hqp (fun h => HQc.out _ h rfl))).trans (HQ3.out.cell 0)))).mono ?_
          rintro e wb ⟨rfl, hb4, hk4⟩
          have HB4 := Lib.hid hb4
          have HQ4 := Lib.hid (HQ.out wb hb4.k)
          clear hb4 hk4
          have HE4 := Lib.hid HQ4.out.2.2.1
          have f0 := HE4.out.frozen 0
          have f1 := HE4.out.frozen 1
          have f2 := HE4.out.frozen 2
          have d0 : wb.cell? ⟨w.heap.size + 1, 0, none⟩ = some (.slice none 0 0) := HE4.out.cell 0
          have d1 : wb.cell? ⟨w.heap.size + 1, 1, none⟩ = some (.slice none 0 0) := HE4.out.cell 1
          have d2 : wb.cell? ⟨w.heap.size + 1, 2, none⟩ = some (I64 0) := HE4.out.cell 2
          have p0 : wb.cell? ⟨p, 0, none⟩ = some (.slice Ac (q2t l (q0a l.L)).length cc) := HB4.out.blk.cell 0
          have p1 : wb.cell? ⟨p, 1, none⟩ = some (.slice Al (q3d l (q0a l.L)).length cl) := HB4.out.blk.cell 1
          have p2 : wb.cell? ⟨p, 2, none⟩ = some (I64 bn) := (HB4.out.blk.cell 2).trans (by simp)
          have hnp : ¬ w.heap.size + 1 = p := HE4.out.ne_ HB4.out.blk (by decide)
          go_wp2_with fail
          refine bodyPost_ret (results_cell_row rfl _ _ (w.heap.size + 1) 24 #[.slice Ac (q2t l (q0a l.L)).length cc, .slice Al (q3d l (q0a l.L)).length cl, I64 bn] (0, 0) _ rfl (z9b HE4.out _ _ _) Tryz.underlying24 rfl j1y) rfl ?_
          have hw7 : w.heap.size ≤ w7.heap.size := (HQ.out w7 (Kp.refl _ _)).2.2.2.size
          have hcl : ((q2t l (q0a l.L)).map (fun c => min c bn)).length = (q2t l (q0a l.L)).length := by simp
          refine ⟨Ac, Al, cc, cl, by rw [HN.out]; simp [x2k], ?_, z0b HQ4.out.2.2.2 (by omega) _ _ _⟩
          rw [HN.out]
          refine ⟨?_, HB4.out.l.set3 (HB4.out.l.ne_blk HE4.out (by decide)) _ _ _, ?_, ?_, fun g hg => Nat.le_trans hw7 (HB4.out.lB g hg), ?_⟩
          · rw [hcl]; exact HB4.out.c.set3 (HB4.out.c.ne_blk HE4.out (by decide)) _ _ _
          · rw [hcl]; exact HB4.out.apart
          · rw [hcl]; exact fun g hg => Nat.le_trans hw7 (HB4.out.cB g hg)
          · rw [hcl, z9i]; exact ⟨htl, htl⟩
 · have hz' : ¬ (0 : Int) = q0m l 65536 := fun e => hz e.symm
   have f0 := HE2.out.frozen 0
   have f1 := HE2.out.frozen 1
   have f2 := HE2.out.frozen 2
   have c0 : w2.cell? ⟨w.heap.size + 1, 0, none⟩ = some (.slice none 0 0) := HE2.out.cell 0
   have c1 : w2.cell? ⟨w.heap.size + 1, 1, none⟩ = some (.slice none 0 0) := HE2.out.cell 1
   have c2 : w2.cell? ⟨w.heap.size + 1, 2, none⟩ = some (I64 0) := HE2.out.cell 2
   have HN := Lib.hid (show q0b l = y5w by rw [q0b, if_neg hz])
   go_wp2_with fail
   refine bodyPost_ret (results_cell_row rfl _ _ (w.heap.size + 1) 24 #[.slice none 0 0, .slice none 0 0, I64 0] (0, 0) _ rfl (z9b HE2.out _ _ _) Tryz.underlying24 rfl j1y) rfl ?_
   refine ⟨none, none, 0, 0, by rw [HN.out]; rfl, by rw [HN.out]; exact z5g.nil _ _ _, z0b B3.out (by omega) _ _ _⟩
end Go.Proofs.YtkkapbnopmmmjaaGreatDoor
