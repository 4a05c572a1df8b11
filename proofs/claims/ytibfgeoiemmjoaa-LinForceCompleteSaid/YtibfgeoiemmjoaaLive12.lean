/- Contract of law 12's live: it returns true. -/
import Derived.Test.YtibfgeoiemmjoaaLin11
namespace Go.Proofs.Ytibfgeoiemmjoaa
open Go.RowKit Go.Shelf

def lX : LinV := ⟨[2, 3, 1], [1, -2, 2], 3⟩
def lL : LinV := ⟨[3, 2, 2], [1, 2, 3], 5⟩
theorem lX_norm : normP lX = ⟨[2, 2], [1, -2], 2⟩ := by decide
theorem lL_f0 : forceP lL [] = some [1] := by decide
theorem lL_f1 : forceP lL [-2] = some [1, 3] := by decide
theorem lL_f2 : forceP lL [-1] = none := by decide
theorem lL_cut : cutP lL 2 = (⟨[2, 1, 1], [1, 2, 3], 3⟩, 0) := by decide
theorem lL_add : addP lL lL = (⟨[3, 2, 2, 3, 2, 2], [1, 2, 3, 1, 2, 3], 10⟩, 0) := by decide
theorem lL_v1 : lvalue lL [false, true, true] = true := by decide
theorem lL_v2 : lvalue lL [false, true] = false := by decide
theorem lL_c3 : lcheck lL 3 = 0 := by decide
theorem lL_c2 : lcheck lL 2 = 1 := by decide
/-- a constraint whose two rows are built anew -/
theorem linAt_built (w : World) (cs ls : List Int) (b : Int) (hc : cs.length ≤ 4096) (hl : ls.length ≤ 4096) : LinAt ((w.alloc (.cells (cs.map I64).toArray 3)).alloc (.cells (ls.map I64).toArray 3)) (some ⟨w.heap.size, 0, none⟩) (some ⟨w.heap.size + 1, 0, none⟩) ⟨cs, ls, b⟩ := by
  have h1 := (Blk.new w 3 (cs.map I64).toArray).alloc (.cells (ls.map I64).toArray 3)
  have h2 := blk2 w (.cells (cs.map I64).toArray 3) 3 (ls.map I64).toArray
  exact ⟨rd_blk h1 rfl h1.lt, rd_blk h2 rfl h2.lt, by unfold maxLen; simp only; omega, by unfold maxLen; simp only; omega⟩

theorem OwnLin.blkLin {B : Nat} {w : World} {A L : Option Addr} {cA cL : Nat} {l : LinV} (h : OwnLin B w A L cA cL l) : LinAt (w.alloc (.cells #[.slice A l.C.length cA, .slice L l.L.length cL, I64 l.B] 24)) A L l := h.at_.up (below1 _ _)
structure LS (W : World) (gx gl : Nat) (A1 L1 AL LL : Option Addr) (cA1 cL1 : Nat) : Prop where
  bx : Blk W gx 24 #[.slice A1 2 cA1, .slice L1 2 cL1, I64 2]
  ax : LinAt W A1 L1 ⟨[2, 2], [1, -2], 2⟩
  bl : Blk W gl 24 #[.slice AL 3 3, .slice LL 3 3, I64 5]
  al : LinAt W AL LL lL
theorem LS.up {W W' : World} {gx gl : Nat} {A1 L1 AL LL : Option Addr} {cA1 cL1 : Nat} (h : LS W gx gl A1 L1 AL LL cA1 cL1) (hb : Below W.heap.size W W') : LS W' gx gl A1 L1 AL LL cA1 cL1 :=
  ⟨h.bx.up hb, h.ax.up hb, h.bl.up hb, h.al.up hb⟩
theorem live_a (w1 : World) (A1 L1 : Option Addr) (cA1 cL1 : Nat) (h : LinAt w1 A1 L1 ⟨[2, 2], [1, -2], 2⟩) :
    LS ((((w1.alloc (.cells #[.slice A1 2 cA1, .slice L1 2 cL1, I64 2] 24)).alloc (.cells #[I64 3, I64 2, I64 2] 3)).alloc (.cells #[I64 1, I64 2, I64 3] 3)).alloc
      (.cells #[.slice (some ⟨w1.heap.size + 1, 0, none⟩) 3 3, .slice (some ⟨w1.heap.size + 1 + 1, 0, none⟩) 3 3, I64 5] 24)) w1.heap.size (w1.heap.size + 1 + 1 + 1) A1 L1 (some ⟨w1.heap.size + 1, 0, none⟩) (some ⟨w1.heap.size + 1 + 1, 0, none⟩) cA1 cL1 := by
  have h1 := Blk.new w1 24 #[.slice A1 2 cA1, .slice L1 2 cL1, I64 2]
  have h2 := linAt_built (w1.alloc (.cells #[.slice A1 2 cA1, .slice L1 2 cL1, I64 2] 24)) [3, 2, 2] [1, 2, 3] 5 (by decide) (by decide)
  have e : (w1.alloc (.cells #[.slice A1 2 cA1, .slice L1 2 cL1, I64 2] 24)).heap.size = w1.heap.size + 1 := by simp
  rw [e] at h2
  have h3 := blk3 (w1.alloc (.cells #[.slice A1 2 cA1, .slice L1 2 cL1, I64 2] 24)) (.cells #[I64 3, I64 2, I64 2] 3) (.cells #[I64 1, I64 2, I64 3] 3) 24 #[.slice (some ⟨w1.heap.size + 1, 0, none⟩) 3 3, .slice (some ⟨w1.heap.size + 1 + 1, 0, none⟩) 3 3, I64 5]
  rw [e] at h3
  exact ⟨h1.up (below3 _ _ _ _), (h.up (below1 _ _)).up (below3 _ _ _ _), h3, h2.up (below1 _ _)⟩
theorem below4 (w : World) (o o2 o3 o4 : Obj) : Below w.heap.size w ((((w.alloc o).alloc o2).alloc o3).alloc o4) := below_up (below3 w o o2 o3) (below1 _ o4)
theorem ForcePost.rd {fs : List Int} {w w' : World} {e : Ending} (h : ForcePost (some fs) w e w') : ∃ A c, e = .returned (.tuple #[.slice A fs.length c, .bool true]) ∧ Rd I64 (· < w'.heap.size) w' A fs ∧ Below w.heap.size w w' := by
  obtain ⟨A, c, he, ho, hl, hb⟩ := h
  obtain ⟨A', c', e', _, hr⟩ := ho.rd
  injection e' with e1 e2 e3
  subst e1 e3
  exact ⟨A, c, he, hr.mono fun b hb => ho.lt hb, hb⟩
theorem CutPost.at_ {r : LinV × Int} {w w' : World} {e : Ending} (h : CutPost r w e w') : ∃ A L cA cL, e = .returned (.tuple #[linV A L cA cL r.1, I64 r.2]) ∧ LinAt w' A L r.1 ∧ Below w.heap.size w w' := by
  obtain ⟨A, L, cA, cL, he, ho, hb⟩ := h
  exact ⟨A, L, cA, cL, he, ho.at_, hb⟩
structure LF (W : World) (gx gl gc gs : Nat) (A1 L1 AL LL Aa Ab Ac Lc As Ls : Option Addr) (cA1 cL1 cAc cLc cAs cLs : Nat) : Prop where
  s : LS W gx gl A1 L1 AL LL cA1 cL1
  a : Rd I64 (· < W.heap.size) W Aa [1]
  b : Rd I64 (· < W.heap.size) W Ab [1, 3]
  bc : Blk W gc 24 #[.slice Ac 3 cAc, .slice Lc 3 cLc, I64 3]
  ac : LinAt W Ac Lc ⟨[2, 1, 1], [1, 2, 3], 3⟩
  bs : Blk W gs 24 #[.slice As 6 cAs, .slice Ls 6 cLs, I64 10]
theorem LF.up {W W' : World} {gx gl gc gs : Nat} {A1 L1 AL LL Aa Ab Ac Lc As Ls : Option Addr} {cA1 cL1 cAc cLc cAs cLs : Nat} (h : LF W gx gl gc gs A1 L1 AL LL Aa Ab Ac Lc As Ls cA1 cL1 cAc cLc cAs cLs) (hb : Below W.heap.size W W') : LF W' gx gl gc gs A1 L1 AL LL Aa Ab Ac Lc As Ls cA1 cL1 cAc cLc cAs cLs :=
  ⟨h.s.up hb, h.a.up hb, h.b.up hb, h.bc.up hb, h.ac.up hb, h.bs.up hb⟩
theorem rd_new {w : World} (t : TypeId) {α : Type} (enc : α → Value) (xs : List α) : Rd enc (· < (w.alloc (.cells (xs.map enc).toArray t)).heap.size) (w.alloc (.cells (xs.map enc).toArray t)) (some ⟨w.heap.size, 0, none⟩) xs := fun _ =>
  ⟨_, _, rfl, (by simp), fun j hj => by rw [(Blk.new w t (xs.map enc).toArray).cell]; simp [hj]⟩
theorem lc_same : sameP ⟨[2, 1, 1], [1, 2, 3], 3⟩ ⟨[2, 1, 1], [1, 2, 3], 3⟩ = true := by decide
theorem lx_same : sameP ⟨[2, 2], [1, -2], 2⟩ ⟨[2, 2], [1, -2], 2⟩ = true := by decide
theorem ll_same : sameP lL ⟨[2, 1, 1], [1, 2, 3], 3⟩ = false := by decide
set_option maxRecDepth 100000 in
set_option maxHeartbeats 3200000 in
theorem live12_any (w : World) : Calls Try.prog 12 #[] w fun e w' => e = .returned (.bool true) ∧ Below w.heap.size w w' := by
  have HL1 := Lib.hid (linAt_built w [2, 3, 1] [1, -2, 2] 3 (by decide) (by decide))
  have HB1 := Lib.hid (below2 w (.cells #[I64 2, I64 3, I64 1] 3) (.cells #[I64 1, I64 (-2), I64 2] 3))
  go_enter Try.func12, Try.ntmps12
  go_wp2_with fail
  refine (norm_any (some ⟨w.heap.size, 0, none⟩) (some ⟨w.heap.size + 1, 0, none⟩) 3 3 lX _ HL1.out).mono ?_
  rintro e w1 ⟨A1, L1, cA1, cL1, rfl, ho1, b1⟩
  rw [lX_norm] at ho1 ⊢
  have HS := Lib.hid (live_a w1 A1 L1 cA1 cL1 ho1.at_)
  have B := Lib.hid (below_up (below_up HB1.out b1) (below4 w1 (.cells #[.slice A1 2 cA1, .slice L1 2 cL1, I64 2] 24) (.cells #[I64 3, I64 2, I64 2] 3) (.cells #[I64 1, I64 2, I64 3] 3) (.cells #[.slice (some ⟨w1.heap.size + 1, 0, none⟩) 3 3, .slice (some ⟨w1.heap.size + 1 + 1, 0, none⟩) 3 3, I64 5] 24)))
  clear ho1 b1 HL1 HB1
  go_wp2_with fail
  generalize (((w1.alloc (.cells #[.slice A1 2 cA1, .slice L1 2 cL1, I64 2] 24)).alloc (.cells #[I64 3, I64 2, I64 2] 3)).alloc (.cells #[I64 1, I64 2, I64 3] 3)).alloc (.cells #[.slice (some ⟨w1.heap.size + 1, 0, none⟩) 3 3, .slice (some ⟨w1.heap.size + 1 + 1, 0, none⟩) 3 3, I64 5] 24) = w2 at HS B ⊢
  generalize (some ⟨w1.heap.size + 1, 0, none⟩ : Option Addr) = AL at HS ⊢
  generalize (some ⟨w1.heap.size + 1 + 1, 0, none⟩ : Option Addr) = LL at HS ⊢
  generalize w1.heap.size + 1 + 1 + 1 = gl at HS ⊢
  generalize w1.heap.size = gx at HS ⊢
  refine (force_any AL LL none 3 3 0 lL [] w2 HS.out.al (Rd.nil _) (by simp) (by simp)).mono ?_
  intro e w3 hp
  rw [lL_f0] at hp
  obtain ⟨Aa, ca, rfl, ra, b3⟩ := hp.rd
  have RA := Lib.hid ra
  have HS3 := Lib.hid (HS.out.up b3)
  have B3 := Lib.hid (below_up B.out b3)
  clear hp ra b3 HS B
  have c0 : w3.cell? ⟨gl, 0, none⟩ = some (.slice AL 3 3) := HS3.out.bl.cell 0
  have c1 : w3.cell? ⟨gl, 1, none⟩ = some (.slice LL 3 3) := HS3.out.bl.cell 1
  have c2 : w3.cell? ⟨gl, 2, none⟩ = some (I64 5) := HS3.out.bl.cell 2
  go_wp2_with fail
  clear c0 c1 c2
  have b4 := below1 w3 (.cells #[I64 (-2)] 3)
  have R4 := Lib.hid (rd_blk (D := (· < (w3.alloc (.cells #[I64 (-2)] 3)).heap.size)) (xs := [-2]) (Blk.new w3 3 #[I64 (-2)]) rfl (by simp))
  have HS4 := Lib.hid (HS3.out.up b4)
  have RA4 := Lib.hid (RA.out.up b4)
  have B4 := Lib.hid (below_up B3.out b4)
  clear b4 HS3 RA B3
  generalize w3.alloc (.cells #[I64 (-2)] 3) = w4 at R4 HS4 RA4 B4 ⊢
  refine (force_any AL LL (some ⟨w3.heap.size, 0, none⟩) 3 3 1 lL [-2] w4 HS4.out.al R4.out (by unfold maxLen; simp) (by simp)).mono ?_
  intro e w5 hp
  rw [lL_f1] at hp
  obtain ⟨Ab, cb, rfl, rb, b5⟩ := hp.rd
  have RB := Lib.hid rb
  have HS5 := Lib.hid (HS4.out.up b5)
  have RA5 := Lib.hid (RA4.out.up b5)
  have B5 := Lib.hid (below_up B4.out b5)
  clear hp rb b5 HS4 RA4 B4 R4
  have c0 : w5.cell? ⟨gl, 0, none⟩ = some (.slice AL 3 3) := HS5.out.bl.cell 0
  have c1 : w5.cell? ⟨gl, 1, none⟩ = some (.slice LL 3 3) := HS5.out.bl.cell 1
  have c2 : w5.cell? ⟨gl, 2, none⟩ = some (I64 5) := HS5.out.bl.cell 2
  go_wp2_with fail
  clear c0 c1 c2
  have b6 := below1 w5 (.cells #[I64 (-1)] 3)
  have R6 := Lib.hid (rd_blk (D := (· < (w5.alloc (.cells #[I64 (-1)] 3)).heap.size)) (xs := [-1]) (Blk.new w5 3 #[I64 (-1)]) rfl (by simp))
  have HS6 := Lib.hid (HS5.out.up b6)
  have RA6 := Lib.hid (RA5.out.up b6)
  have RB6 := Lib.hid (RB.out.up b6)
  have B6 := Lib.hid (below_up B5.out b6)
  clear b6 HS5 RA5 RB B5
  generalize w5.alloc (.cells #[I64 (-1)] 3) = w6 at R6 HS6 RA6 RB6 B6 ⊢
  refine (force_any AL LL (some ⟨w5.heap.size, 0, none⟩) 3 3 1 lL [-1] w6 HS6.out.al R6.out (by unfold maxLen; simp) (by simp)).mono ?_
  intro e w7 hp
  rw [lL_f2] at hp
  obtain ⟨rfl, b7⟩ := hp
  have HS7 := Lib.hid (HS6.out.up b7)
  have RA7 := Lib.hid (RA6.out.up b7)
  have RB7 := Lib.hid (RB6.out.up b7)
  have B7 := Lib.hid (below_up B6.out b7)
  clear b7 HS6 RA6 RB6 B6 R6
  have c0 : w7.cell? ⟨gl, 0, none⟩ = some (.slice AL 3 3) := HS7.out.bl.cell 0
  have c1 : w7.cell? ⟨gl, 1, none⟩ = some (.slice LL 3 3) := HS7.out.bl.cell 1
  have c2 : w7.cell? ⟨gl, 2, none⟩ = some (I64 5) := HS7.out.bl.cell 2
  go_wp2_with fail
  clear c0 c1 c2
  refine (cut_any AL LL 3 3 lL 2 w7 HS7.out.al).mono ?_
  intro e w8 hp
  rw [lL_cut] at hp
  obtain ⟨Ac, Lc, cAc, cLc, rfl, hc8, b8⟩ := hp.at_
  have b8' := below1 w8 (.cells #[.slice Ac 3 cAc, .slice Lc 3 cLc, I64 3] 24)
  have HC9 := Lib.hid (Blk.new w8 24 #[.slice Ac 3 cAc, .slice Lc 3 cLc, I64 3])
  have HD9 := Lib.hid (hc8.up b8')
  have HS9 := Lib.hid ((HS7.out.up b8).up b8')
  have RA9 := Lib.hid ((RA7.out.up b8).up b8')
  have RB9 := Lib.hid ((RB7.out.up b8).up b8')
  have B9 := Lib.hid (below_up (below_up B7.out b8) b8')
  clear hp b8 b8' hc8 HS7 RA7 RB7 B7
  have c0 : (w8.alloc (.cells #[.slice Ac 3 cAc, .slice Lc 3 cLc, I64 3] 24)).cell? ⟨gl, 0, none⟩ = some (.slice AL 3 3) := HS9.out.bl.cell 0
  have c1 : (w8.alloc (.cells #[.slice Ac 3 cAc, .slice Lc 3 cLc, I64 3] 24)).cell? ⟨gl, 1, none⟩ = some (.slice LL 3 3) := HS9.out.bl.cell 1
  have c2 : (w8.alloc (.cells #[.slice Ac 3 cAc, .slice Lc 3 cLc, I64 3] 24)).cell? ⟨gl, 2, none⟩ = some (I64 5) := HS9.out.bl.cell 2
  go_wp2_with fail
  clear c0 c1 c2
  generalize w8.alloc (.cells #[.slice Ac 3 cAc, .slice Lc 3 cLc, I64 3] 24) = w9 at HC9 HD9 HS9 RA9 RB9 B9 ⊢
  generalize w8.heap.size = gc at HC9 ⊢
  refine (add_any AL LL AL LL 3 3 3 3 lL lL w9 HS9.out.al HS9.out.al).mono ?_
  intro e w10 hp
  rw [lL_add] at hp
  obtain ⟨As, Ls, cAs, cLs, rfl, _, b10⟩ := hp.at_
  have b10' := below_up b10 (below1 w10 (.cells #[.slice As 6 cAs, .slice Ls 6 cLs, I64 10] 24))
  have F := Lib.hid (show LF (w10.alloc (.cells #[.slice As 6 cAs, .slice Ls 6 cLs, I64 10] 24)) gx gl gc w10.heap.size A1 L1 AL LL Aa Ab Ac Lc As Ls cA1 cL1 cAc cLc cAs cLs from
    ⟨HS9.out.up b10', RA9.out.up b10', RB9.out.up b10', HC9.out.up b10', HD9.out.up b10', Blk.new w10 _ _⟩)
  have B10 := Lib.hid (below_up B9.out b10')
  clear hp b10 b10' HS9 RA9 RB9 HC9 HD9 B9
  have c0 : (w10.alloc (.cells #[.slice As 6 cAs, .slice Ls 6 cLs, I64 10] 24)).cell? ⟨gx, 0, none⟩ = some (.slice A1 2 cA1) := F.out.s.bx.cell 0
  have c1 : (w10.alloc (.cells #[.slice As 6 cAs, .slice Ls 6 cLs, I64 10] 24)).cell? ⟨gx, 1, none⟩ = some (.slice L1 2 cL1) := F.out.s.bx.cell 1
  have c2 : (w10.alloc (.cells #[.slice As 6 cAs, .slice Ls 6 cLs, I64 10] 24)).cell? ⟨gx, 2, none⟩ = some (I64 2) := F.out.s.bx.cell 2
  go_wp2_with fail
  clear c0 c1 c2
  have m12 := linAt_built (w10.alloc (.cells #[.slice As 6 cAs, .slice Ls 6 cLs, I64 10] 24)) [2, 2] [1, -2] 2 (by decide) (by decide)
  rw [show (w10.alloc (.cells #[.slice As 6 cAs, .slice Ls 6 cLs, I64 10] 24)).heap.size = w10.heap.size + 1 by simp] at m12
  simp only [List.map_cons, List.map_nil] at m12
  have M12 := Lib.hid m12
  clear m12
  generalize w10.alloc (.cells #[.slice As 6 cAs, .slice Ls 6 cLs, I64 10] 24) = w11 at F B10 M12 ⊢
  generalize w10.heap.size = gs at F M12 ⊢
  have b12 := below2 w11 (.cells #[I64 2, I64 2] 3) (.cells #[I64 1, I64 (-2)] 3)
  have F12 := Lib.hid (F.out.up b12)
  have B12 := Lib.hid (below_up B10.out b12)
  clear b12 F B10
  generalize (w11.alloc (.cells #[I64 2, I64 2] 3)).alloc (.cells #[I64 1, I64 (-2)] 3) = w12 at F12 B12 M12 ⊢
  refine (same_any A1 L1 (some ⟨gs + 1, 0, none⟩) (some ⟨gs + 1 + 1, 0, none⟩) cA1 cL1 2 2 ⟨[2, 2], [1, -2], 2⟩ ⟨[2, 2], [1, -2], 2⟩ w12 F12.out.s.ax M12.out).mono ?_
  rw [lx_same]
  rintro e w13 ⟨rfl, b13⟩
  have F13 := Lib.hid (F12.out.up b13)
  have B13 := Lib.hid (below_up B12.out b13)
  clear b13 F12 B12 M12
  have c0 : w13.cell? ⟨gc, 0, none⟩ = some (.slice Ac 3 cAc) := F13.out.bc.cell 0
  have c1 : w13.cell? ⟨gc, 1, none⟩ = some (.slice Lc 3 cLc) := F13.out.bc.cell 1
  have c2 : w13.cell? ⟨gc, 2, none⟩ = some (I64 3) := F13.out.bc.cell 2
  go_wp2_with fail
  clear c0 c1 c2
  have M14 := Lib.hid (show LinAt ((w13.alloc (.cells #[I64 2, I64 1, I64 1] 3)).alloc (.cells #[I64 1, I64 2, I64 3] 3)) (some ⟨w13.heap.size, 0, none⟩) (some ⟨w13.heap.size + 1, 0, none⟩) ⟨[2, 1, 1], [1, 2, 3], 3⟩ from linAt_built w13 [2, 1, 1] [1, 2, 3] 3 (by decide) (by decide))
  have b14 := below2 w13 (.cells #[I64 2, I64 1, I64 1] 3) (.cells #[I64 1, I64 2, I64 3] 3)
  have F14 := Lib.hid (F13.out.up b14)
  have B14 := Lib.hid (below_up B13.out b14)
  clear b14 F13 B13
  generalize (w13.alloc (.cells #[I64 2, I64 1, I64 1] 3)).alloc (.cells #[I64 1, I64 2, I64 3] 3) = w14 at F14 B14 M14 ⊢
  refine (same_any Ac Lc (some ⟨w13.heap.size, 0, none⟩) (some ⟨w13.heap.size + 1, 0, none⟩) cAc cLc 3 3 ⟨[2, 1, 1], [1, 2, 3], 3⟩ ⟨[2, 1, 1], [1, 2, 3], 3⟩ w14 F14.out.ac M14.out).mono ?_
  rw [lc_same]
  rintro e w15 ⟨rfl, b15⟩
  have F15 := Lib.hid (F14.out.up b15)
  have B15 := Lib.hid (below_up B14.out b15)
  clear b15 F14 B14 M14
  go_wp2_with fail
  have M16 := Lib.hid (show Rd I64 (· < (w15.alloc (.cells #[I64 1] 3)).heap.size) (w15.alloc (.cells #[I64 1] 3)) (some ⟨w15.heap.size, 0, none⟩) [1] from rd_new 3 I64 [1])
  have b16 := below1 w15 (.cells #[I64 1] 3)
  have F16 := Lib.hid (F15.out.up b16)
  have B16 := Lib.hid (below_up B15.out b16)
  clear b16 F15 B15
  generalize w15.alloc (.cells #[I64 1] 3) = w16 at F16 B16 M16 ⊢
  refine (ints12_any Aa (some ⟨w15.heap.size, 0, none⟩) ca 1 [1] [1] w16 F16.out.a M16.out (by unfold maxLen; simp) (by unfold maxLen; simp)).mono ?_
  rintro e w17 ⟨rfl, q17⟩
  have b17 := below_q (Below.refl w16.heap.size w16) q17
  have F17 := Lib.hid (F16.out.up b17)
  have B17 := Lib.hid (below_up B16.out b17)
  clear b17 F16 B16 M16 q17
  go_wp2_with fail
  have M18 := Lib.hid (show Rd I64 (· < (w17.alloc (.cells #[I64 1, I64 3] 3)).heap.size) (w17.alloc (.cells #[I64 1, I64 3] 3)) (some ⟨w17.heap.size, 0, none⟩) [1, 3] from rd_new 3 I64 [1, 3])
  have b18 := below1 w17 (.cells #[I64 1, I64 3] 3)
  have F18 := Lib.hid (F17.out.up b18)
  have B18 := Lib.hid (below_up B17.out b18)
  clear b18 F17 B17
  generalize w17.alloc (.cells #[I64 1, I64 3] 3) = w18 at F18 B18 M18 ⊢
  refine (ints12_any Ab (some ⟨w17.heap.size, 0, none⟩) cb 2 [1, 3] [1, 3] w18 F18.out.b M18.out (by unfold maxLen; simp) (by unfold maxLen; simp)).mono ?_
  rintro e w19 ⟨rfl, q19⟩
  have b19 := below_q (Below.refl w18.heap.size w18) q19
  have F19 := Lib.hid (F18.out.up b19)
  have B19 := Lib.hid (below_up B18.out b19)
  clear b19 F18 B18 M18 q19
  have c0 : w19.cell? ⟨gl, 0, none⟩ = some (.slice AL 3 3) := F19.out.s.bl.cell 0
  have c1 : w19.cell? ⟨gl, 1, none⟩ = some (.slice LL 3 3) := F19.out.s.bl.cell 1
  have c2 : w19.cell? ⟨gl, 2, none⟩ = some (I64 5) := F19.out.s.bl.cell 2
  have c3 : w19.cell? ⟨gs, 0, none⟩ = some (.slice As 6 cAs) := F19.out.bs.cell 0
  have c4 : w19.cell? ⟨gs, 1, none⟩ = some (.slice Ls 6 cLs) := F19.out.bs.cell 1
  have c5 : w19.cell? ⟨gs, 2, none⟩ = some (I64 10) := F19.out.bs.cell 2
  go_wp2_with fail
  clear c0 c1 c2 c3 c4 c5
  have M20 := Lib.hid (show Rd Value.bool (· < (w19.alloc (.cells #[.bool false, .bool true, .bool true] 4)).heap.size) (w19.alloc (.cells #[.bool false, .bool true, .bool true] 4)) (some ⟨w19.heap.size, 0, none⟩) [false, true, true] from rd_new 4 Value.bool [false, true, true])
  have b20 := below1 w19 (.cells #[.bool false, .bool true, .bool true] 4)
  have F20 := Lib.hid (F19.out.up b20)
  have B20 := Lib.hid (below_up B19.out b20)
  clear b20 F19 B19
  generalize w19.alloc (.cells #[.bool false, .bool true, .bool true] 4) = w20 at F20 B20 M20 ⊢
  refine (lvalue_any AL LL (some ⟨w19.heap.size, 0, none⟩) 3 3 3 lL [false, true, true] w20 F20.out.s.al M20.out (by unfold maxLen; simp)).mono ?_
  rw [lL_v1]
  rintro e w21 ⟨rfl, b21⟩
  have F21 := Lib.hid (F20.out.up b21)
  have B21 := Lib.hid (below_up B20.out b21)
  clear b21 F20 B20 M20
  have c0 : w21.cell? ⟨gl, 0, none⟩ = some (.slice AL 3 3) := F21.out.s.bl.cell 0
  have c1 : w21.cell? ⟨gl, 1, none⟩ = some (.slice LL 3 3) := F21.out.s.bl.cell 1
  have c2 : w21.cell? ⟨gl, 2, none⟩ = some (I64 5) := F21.out.s.bl.cell 2
  go_wp2_with fail
  clear c0 c1 c2
  have M22 := Lib.hid (show Rd Value.bool (· < (w21.alloc (.cells #[.bool false, .bool true] 4)).heap.size) (w21.alloc (.cells #[.bool false, .bool true] 4)) (some ⟨w21.heap.size, 0, none⟩) [false, true] from rd_new 4 Value.bool [false, true])
  have b22 := below1 w21 (.cells #[.bool false, .bool true] 4)
  have F22 := Lib.hid (F21.out.up b22)
  have B22 := Lib.hid (below_up B21.out b22)
  clear b22 F21 B21
  generalize w21.alloc (.cells #[.bool false, .bool true] 4) = w22 at F22 B22 M22 ⊢
  refine (lvalue_any AL LL (some ⟨w21.heap.size, 0, none⟩) 3 3 2 lL [false, true] w22 F22.out.s.al M22.out (by unfold maxLen; simp)).mono ?_
  rw [lL_v2]
  rintro e w23 ⟨rfl, b23⟩
  have F23 := Lib.hid (F22.out.up b23)
  have B23 := Lib.hid (below_up B22.out b23)
  clear b23 F22 B22 M22
  have c0 : w23.cell? ⟨gl, 0, none⟩ = some (.slice AL 3 3) := F23.out.s.bl.cell 0
  have c1 : w23.cell? ⟨gl, 1, none⟩ = some (.slice LL 3 3) := F23.out.s.bl.cell 1
  have c2 : w23.cell? ⟨gl, 2, none⟩ = some (I64 5) := F23.out.s.bl.cell 2
  go_wp2_with fail
  clear c0 c1 c2
  refine (lcheck_any AL LL 3 3 lL 3 w23 F23.out.s.al).mono ?_
  rw [lL_c3]
  rintro e w24 ⟨rfl, b24⟩
  have F24 := Lib.hid (F23.out.up b24)
  have B24 := Lib.hid (below_up B23.out b24)
  clear b24 F23 B23
  have c0 : w24.cell? ⟨gl, 0, none⟩ = some (.slice AL 3 3) := F24.out.s.bl.cell 0
  have c1 : w24.cell? ⟨gl, 1, none⟩ = some (.slice LL 3 3) := F24.out.s.bl.cell 1
  have c2 : w24.cell? ⟨gl, 2, none⟩ = some (I64 5) := F24.out.s.bl.cell 2
  go_wp2_with fail
  clear c0 c1 c2
  refine (lcheck_any AL LL 3 3 lL 2 w24 F24.out.s.al).mono ?_
  rw [lL_c2]
  rintro e w25 ⟨rfl, b25⟩
  have F25 := Lib.hid (F24.out.up b25)
  have B25 := Lib.hid (below_up B24.out b25)
  clear b25 F24 B24
  have c0 : w25.cell? ⟨gl, 0, none⟩ = some (.slice AL 3 3) := F25.out.s.bl.cell 0
  have c1 : w25.cell? ⟨gl, 1, none⟩ = some (.slice LL 3 3) := F25.out.s.bl.cell 1
  have c2 : w25.cell? ⟨gl, 2, none⟩ = some (I64 5) := F25.out.s.bl.cell 2
  have c3 : w25.cell? ⟨gc, 0, none⟩ = some (.slice Ac 3 cAc) := F25.out.bc.cell 0
  have c4 : w25.cell? ⟨gc, 1, none⟩ = some (.slice Lc 3 cLc) := F25.out.bc.cell 1
  have c5 : w25.cell? ⟨gc, 2, none⟩ = some (I64 3) := F25.out.bc.cell 2
  go_wp2_with fail
  clear c0 c1 c2 c3 c4 c5
  refine (same_any AL LL Ac Lc 3 3 cAc cLc lL ⟨[2, 1, 1], [1, 2, 3], 3⟩ w25 F25.out.s.al F25.out.ac).mono ?_
  rw [ll_same]
  rintro e w26 ⟨rfl, b26⟩
  have F26 := Lib.hid (F25.out.up b26)
  have B26 := Lib.hid (below_up B25.out b26)
  clear b26 F25 B25
  go_wp2_with fail
  go_ret
  exact ⟨rfl, B26.out⟩
end Go.Proofs.Ytibfgeoiemmjoaa
