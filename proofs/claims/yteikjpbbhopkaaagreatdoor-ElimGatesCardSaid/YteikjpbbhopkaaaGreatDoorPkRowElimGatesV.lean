/- Lemmas and contracts for the row. -/
import Derived.Test.YteikjpbbhopkaaaGreatDoorPkRowElimGatesU
set_option linter.unusedVariables false
set_option linter.unusedSimpArgs false
set_option linter.unnecessarySimpa false
namespace Go.Proofs.YteikjpbbhopkaaaGreatDoor
open Go.RowKit Go.Shelf
attribute [local go_sem ↓] Go.wp_at_zero Go.wp_at_succ
def q3r (l:q4p) (vs:List Int):List Int:=(q0u l vs).map (·.1)
def q4i (l:q4p) (vs:List Int):List Int:=(q0u l vs).map (·.2)
structure z6z (B:Nat) (w:World) (A L:Option Addr) (cA cL:Nat) (l:q4p):Prop where
 c:Own w 3 (.slice A l.C.length cA) (l.C.map I64)
 li:Own w 3 (.slice L l.L.length cL) (l.L.map I64)
 apart:∀g,(Value.slice A l.C.length cA).ownBlock=some g→(Value.slice L l.L.length cL).ownBlock≠some g
 cB:∀g,(Value.slice A l.C.length cA).ownBlock=some g→B≤g
 lB:∀g,(Value.slice L l.L.length cL).ownBlock=some g→B≤g
 len:l.C.length≤4096∧l.L.length≤4096
theorem z6z.nil (B:Nat) (w:World) (b:Int):z6z B w none none 0 0 ⟨[],[],b⟩:=⟨Own.nil _ _,Own.nil _ _,fun g h=>(by cases h),fun g h=>(by cases h),fun g h=>(by cases h),⟨by simp,by simp⟩⟩
def k6o (l:q4p) (w:World) (e:Ending) (w':World):Prop:=∃A' L' cA' cL',e=.returned (k7s A' L' cA' cL' (q0j l))∧z6z w.heap.size w' A' L' cA' cL' (q0j l)∧Below w.heap.size w w'
theorem j5p {w:World} {g:Nat} {t:TypeId} {a b c:Value} (h:Blk w g t #[a,b,c]) (x y z:Value):Blk (((w.setCell ⟨g,0,none⟩ x).setCell ⟨g,1,none⟩ y).setCell ⟨g,2,none⟩ z) g t #[x,y,z]:=by
 simpa using((h.set_ 0 x).set_ 1 y).set_ 2 z
theorem z2x {B:Nat} {wo w:World} {g:Nat} (h:Below B wo w) (hg:B≤g) (x y z:Value):Below B wo (((w.setCell ⟨g,0,none⟩ x).setCell ⟨g,1,none⟩ y).setCell ⟨g,2,none⟩ z):=
 ((h.setCell (p:=⟨g,0,none⟩) hg x).setCell (p:=⟨g,1,none⟩) hg y).setCell (p:=⟨g,2,none⟩) hg z
theorem j4w:(Tryz.prog.info? 57).map (·.size)=some 3:=by kernel_rfl
theorem Own.set3 {w:World} {g:Nat} {e:TypeId} {v:Value} {xs:List Value} (h:Own w e v xs) (hg:v.ownBlock≠some g) (x y z:Value):Own (((w.setCell ⟨g,0,none⟩ x).setCell ⟨g,1,none⟩ y).setCell ⟨g,2,none⟩ z) e v xs:=
 ((h.far (p:=⟨g,0,none⟩) hg x).far (p:=⟨g,1,none⟩) hg y).far (p:=⟨g,2,none⟩) hg z
theorem y9g (l:q4p) (vs:List Int):(q3r l vs).zip (q4i l vs)=q0u l vs:=by
 unfold q3r q4i
 rw[z5u]
 simp
theorem j6t (l:q4p) (vs:List Int):(q3r l vs).length=(q4i l vs).length:=by simp[q3r,q4i]
theorem k7d (l:q4p) (vs:List Int) (M:Int) (h:q1e (q0u l vs)≤M):(∀k,0≤q1e (((q3r l vs).zip (q4i l vs)).take k)∧q1e (((q3r l vs).zip (q4i l vs)).take k)≤M)∧∀c∈q3r l vs,0<c∧c≤M:=by
 rw[y9g]
 refine⟨fun k=>?_,fun c hc=>?_⟩
 ·have:=q9v (q0u l vs) k (q6n l vs)
  omega
 ·obtain⟨q,hq,rfl⟩:=List.mem_map.1 hc
  have h1:=q6n l vs q hq
  have h2:=z4t (q0u l vs) q (q6n l vs) hq
  exact⟨h1,Qo2 h2 h⟩
theorem v1r (x y:Value) (w:World):(Instr.index 118 (.agg #[x,y]) (.int .i64 0)).run Tryz.prog w=.ok x w:=by kernel_rfl
theorem v0q (x y:Value) (w:World):(Instr.index 118 (.agg #[x,y]) (.int .i64 1)).run Tryz.prog w=.ok y w:=by kernel_rfl
theorem k9j {l:q4p} (h:q0o l 65536=0) (x:Int): -4503599627370496≤cfZ (l.C.zip l.L) x∧cfZ (l.C.zip l.L) x≤4503599627370496:=by
 obtain⟨_,_,hl,_,hc,hx,hn⟩:=q1l h
 have h1:=x0c 1099511627776 (by decide) x (l.C.zip l.L) (fun q hq=>hc q.1 (Qf8 hq).1)
 have h2:(l.C.zip l.L).length≤4096:=by rw[Qf9];omega
 omega
set_option maxRecDepth 100000 in
set_option maxHeartbeats 1600000 in
theorem k5f (A L:Option Addr) (cA cL:Nat) (l:q4p) (w:World) (h:j0q w A L l):
 Calls Tryz.prog 41 #[k7s A L cA cL l] w (k6o l w):=by
 have H:=Lib.hid h
 clear h
 go_enter Tryz.func41,Tryz.ntmps41
 go_wp2_with fail
 have HBw:=Lib.hid (j1r w (Obj.cells #[Value.slice A l.C.length cA,Value.slice L l.L.length cL,I64 l.B] 57) (Obj.cells #[.slice none 0 0,.slice none 0 0,I64 0] 57))
 have HD1:=Lib.hid ((Blk.new w 57 #[Value.slice A l.C.length cA,Value.slice L l.L.length cL,I64 l.B]).alloc (Obj.cells #[.slice none 0 0,.slice none 0 0,I64 0] 57))
 have HD2:=Lib.hid (v2k w (Obj.cells #[Value.slice A l.C.length cA,Value.slice L l.L.length cL,I64 l.B] 57) 57 #[.slice none 0 0,.slice none 0 0,I64 0])
 generalize hw1:(w.alloc (Obj.cells #[Value.slice A l.C.length cA,Value.slice L l.L.length cL,I64 l.B] 57)).alloc (Obj.cells #[.slice none 0 0,.slice none 0 0,I64 0] 57)=w1 at HBw HD1 HD2⊢
 clear hw1
 refine(k2e A L cA cL l w1 (H.out.up HBw.out)).mono ?_
 rintro e w2 ⟨rfl,b2⟩
 have B2:=Lib.hid b2
 have B3:=Lib.hid (q3a HBw.out b2)
 have HE1:=Lib.hid (show Blk w2 w.heap.size 57 #[Value.slice A l.C.length cA,Value.slice L l.L.length cL,I64 l.B]from(b2.block _ HD1.out.lt).trans HD1.out)
 have HE2:=Lib.hid (show Blk w2 (w.heap.size+1) 57 #[.slice none 0 0,.slice none 0 0,I64 0]from(b2.block _ HD2.out.lt).trans HD2.out)
 clear b2 HD1 HD2
 by_cases hz:q0o l 65536=0
 ·rw[hz]
  have hmm:= @run_makeMap Tryz.prog
  have c0:w2.cell? ⟨w.heap.size,0,none⟩=some (.slice A l.C.length cA):=HE1.out.cell 0
  have c1:w2.cell? ⟨w.heap.size,1,none⟩=some (.slice L l.L.length cL):=HE1.out.cell 1
  have c2:w2.cell? ⟨w.heap.size,2,none⟩=some (I64 l.B):=HE1.out.cell 2
  go_wp2_with fail
  clear hmm c0 c1 c2
  refine(k0y A L cA cL w2.heap.size l (w2.alloc (.map #[] 0)) ((H.out.up B3.out).up (q8b _ _)) hz (q6r.made w2) ⟨_,World.ownsMap_made w2 Tryz.prog 3 R0⟩).mono ?_
  rintro e w4 ⟨rfl,hm4,hf4,hk4⟩
  have HM4:=Lib.hid hm4
  have HF4:=Lib.hid hf4
  have B4:=Lib.hid (show Below w2.heap.size w2 w4 from(q8b w2 (.map #[] 0)).trans (hk4.below (fun k h1 _=>by omega) (by simp)))
  clear hm4 hf4 hk4
  have c2:w4.cell? ⟨w.heap.size,2,none⟩=some (I64 l.B):=(B4.out.cell (p:=⟨w.heap.size,2,none⟩) HE1.out.lt).trans (HE1.out.cell 2)
  have HE4:=Lib.hid (show Blk w4 (w.heap.size+1) 57 #[.slice none 0 0,.slice none 0 0,I64 0]from(B4.out.block _ HE2.out.lt).trans HE2.out)
  have B5:=Lib.hid (q3a B3.out B4.out)
  have hlt4:=HE4.out.lt
  clear B3 HE2 HE1 B2
  go_wp2_with fail
  have HW5:=Lib.hid (show q6r (w4.alloc (Obj.cells #[Value.slice none 0 0,Value.slice none 0 0,I64 l.B] 123)) w2.heap.size (z3u (l.C.zip l.L))∧Fits (w4.alloc (Obj.cells #[Value.slice none 0 0,Value.slice none 0 0,I64 l.B] 123)) w2.heap.size l.L.length from
   ⟨HM4.out.kp ((Kp.refl (fun _=>False) w4).alloc _) (fun h=>h),HF4.out.kp ((Kp.refl (fun _=>False) w4).alloc _) (fun h=>h)⟩)
  have HK5:=Lib.hid (q8b w4 (Obj.cells #[Value.slice none 0 0,Value.slice none 0 0,I64 l.B] 123))
  have HP5:=Lib.hid (Blk.new w4 123 #[Value.slice none 0 0,Value.slice none 0 0,I64 l.B])
  generalize w4.alloc (Obj.cells #[Value.slice none 0 0,Value.slice none 0 0,I64 l.B] 123)=w5 at HW5 HK5 HP5⊢
  refine(k8x w2.heap.size _).mono ?_
  rintro e w6 ⟨rfl,rfl⟩
  go_wp2_with fail
  refine(x3a w2.heap.size l.L.length (z3u (l.C.zip l.L)) w5 HW5.out.1 HW5.out.2 (by have:=(q1l hz).2.2.2.2.2.2;omega)).mono ?_
  rintro e w7 ⟨A7,c7,vs,rfl,hinc,hmem,_,hrd,hb7⟩
  obtain rfl:vs=q0h l.L:=k1d hinc (q9i _) (fun v=>by
   rw[hmem v,z3u,k4d (q1l hz).2.2.1]
   by_cases hv:v∈q0h l.L<;>simp[hv])
  have HR7:=Lib.hid hrd
  have HB7:=Lib.hid (show Bld w7.heap.size w7 w7 w4.heap.size (.slice none 0 0) (.slice none 0 0) [] [] l.B from by
   have h2:=q3a (q8b w5 (.cells #[.map (some w2.heap.size)] 116)) hb7
   exact⟨Kp.refl _ _,(h2.block _ HP5.out.lt).trans HP5.out,Own.nil _ _,Own.nil _ _,fun g h=>(by cases h),Qb8 _,fun g h=>(by cases h),fun g h=>(by cases h)⟩)
  have HK7:=Lib.hid (q3a HK5.out (q3a (q8b w5 (.cells #[.map (some w2.heap.size)] 116)) hb7))
  have hvl:(q0h l.L).length≤4096:=Qc0 (j9v _) (q1l hz).2.2.2.2.2.2
  have HQ:=Lib.hid (show∀wr,Kp (fun k=>k=w4.heap.size∨w7.heap.size≤k) w7 wr→q6r wr w2.heap.size (z3u (l.C.zip l.L))∧Own wr 3 (.slice A7 (q0h l.L).length c7) ((q0h l.L).map I64)∧Blk wr (w.heap.size+1) 57 #[.slice none 0 0,.slice none 0 0,I64 0]∧Below w.heap.size w wr from fun wr hk=>by
   have hM:q6r w7 w2.heap.size (z3u (l.C.zip l.L)):=HM4.out.kp (Kp.of_below HK7.out) (by have:=HM4.out.lt;omega)
   have hE:Blk w7 (w.heap.size+1) 57 #[.slice none 0 0,.slice none 0 0,I64 0]:=(HK7.out.block _ HE4.out.lt).trans HE4.out
   have n1:w2.heap.size≠w4.heap.size:=hM.ne_blk HB7.out.blk
   have n2:w.heap.size+1≠w4.heap.size:=hE.ne_ HB7.out.blk (by decide)
   have n3:=HR7.out.ne_blk HB7.out.blk (by decide)
   refine⟨hM.kp hk ?_,HR7.out.kp hk ?_,hE.kp hk ?_,?_⟩
   ·rintro(e|e)
    ·exact n1 e
    ·have:=hM.lt;omega
   ·rintro g hg (e|e)
    ·rw[e]at hg;exact n3 hg
    ·have:=HR7.out.lt hg;omega
   ·rintro(e|e)
    ·exact n2 e
    ·have:=hE.lt;omega
   ·have h1:=HE4.out.lt
    have h2:=HK7.out.size
    exact(q3a B5.out HK7.out).trans (hk.below (fun k h3 _ h4=>by omega) (by omega)))
  have K7:=Lib.hid (q1l hz).2.2.2.2.2.1
  have HZ:=Lib.hid hz
  clear hinc hmem hrd hb7 HW5 HK5 HP5 c2 HK7 HR7 HE4 HM4 HF4 B4 B5 hlt4 H HBw hz
  generalize w4.heap.size=p at HB7 HQ⊢
  generalize w2.heap.size=m at HQ⊢
  go_wp2_with fail
  go_loopw [6,7,8,26] (fun _ _ _ iv wr=>∃(i:Nat) (cv lv:Value),iv=.int .i64 i∧i≤(q0h l.L).length∧Bld w7.heap.size w7 wr p cv lv (q3r l ((q0h l.L).take i)) (q4i l ((q0h l.L).take i)) (l.B-q2s l ((q0h l.L).take i))) (fun _ _ _ iv _=>(q0h l.L).length-(intOf iv).toNat)
  case atStart=>exact⟨0,_,_,rfl,Qc1 _,by simpa[q3r,q4i,q0u,q2s]using HB7.out⟩
  case round=>
   obtain⟨i,cv,lv,rfl,hi,hbl⟩:=hrel
   have HB:=Lib.hid hbl
   clear hbl
   by_cases hlt:i<(q0h l.L).length
   ·obtain⟨hM,hO,_,_⟩:=HQ.out wr HB.out.k
    have hO1:=hO
    obtain⟨g7,o7,eA⟩:=hO1.addr (by omega)
    have hv:=j5r K7.out _ (Qc7 hlt)
    have hcell:wr.cell? ⟨g7,o7+i,none⟩=some (I64 (q0h l.L)[i]):=by
     rw[eA]at hO
     have:=hO.at_ (i:=i) (by simpa using hlt)
     simpa using this.1
    have hlk:=q9x (P:=Tryz.prog) 116 3 118 (q4v 0 0) Tryz.underlying116 Tryz.underlying3 u8x (show q6r wr.drew m _ from hM.kp (Kp.refl (fun _=>False) wr).drew (fun h=>h)) (q0h l.L)[i]
    rw[y8b _ _ (by omega)]at hlk
    have hba:=k9j HZ.out (q0h l.L)[i]
    have hbb:=k9j HZ.out (-(q0h l.L)[i])
    have hmb:=x9x HZ.out i
    have hBb:=(q1l HZ.out).2.2.2.1
    have c2:wr.cell? ⟨p,2,none⟩=some (I64 (l.B-q2s l ((q0h l.L).take i))):=HB.out.blk.cell 2
    have f2:wr.frozen? ⟨p,2,none⟩=false:=HB.out.blk.frozen 2
    have HS1:=Lib.hid (show q2s l ((q0h l.L).take (i+1))=q2s l ((q0h l.L).take i)+min (cfZ (l.C.zip l.L) (q0h l.L)[i]) (cfZ (l.C.zip l.L) (-(q0h l.L)[i])) by rw[Qb9 hlt,j1s];rfl)
    have HS2:=Lib.hid (show q0u l ((q0h l.L).take (i+1))=q0u l ((q0h l.L).take i)++q5s (cfZ (l.C.zip l.L) (q0h l.L)[i]) (cfZ (l.C.zip l.L) (-(q0h l.L)[i])) (q0h l.L)[i] by rw[Qb9 hlt,y3y];rfl)
    have hlen1:(q3r l ((q0h l.L).take i)).length≤1000000:=by
     have:=q8n l ((q0h l.L).take i)
     simp only[q3r,Qa9,Qd0]at this⊢
     omega
    have hlen2:(q4i l ((q0h l.L).take i)).length≤1000000:=by simpa[q3r,q4i]using hlen1
    subst eA
    clear hM hO hO1
    generalize (q0h l.L)[i]=v at hv hcell hlk hba hbb HS1 HS2
    generalize cfZ (l.C.zip l.L) v=a at hlk hba HS1 HS2
    generalize cfZ (l.C.zip l.L) (-v)=b at hlk hbb HS1 HS2
    have HB1:=Lib.hid (HB.out.set2 (l.B-q2s l ((q0h l.L).take i)-min a b)).drew
    generalize hbi:l.B-q2s l ((q0h l.L).take i)=bi at c2 HB HB1
    obtain⟨hv1,hv2⟩:=hv
    obtain⟨ha1,ha2⟩:=hba
    obtain⟨hb1,hb2⟩:=hbb
    have hbi1: -10000000000000000≤bi:=by omega
    have hbi2:bi≤10000000000000000:=by omega
    have HBi:=Lib.hid hbi
    clear hbi hmb hBb
    unfold q4v at hlk
    have hp0:=v1r
    have hp1:=v0q
    go_wp2_with fail
    go_region
    clear hlk hp0 hp1 hcell
    go_wp2_with fail
    refine(y6h _ _ _).mono ?_
    rintro e w9 ⟨rfl,rfl⟩
    generalize (wr.setCell ⟨p,2,none⟩ (I64 (bi-min a b))).drew=wx at HB1⊢
    have HE:=Lib.hid (show l.B-q2s l ((q0h l.L).take (i+1))=bi-min a b by rw[HS1.out,←HBi.out];omega)
    clear c2 f2 HB
    rcases Qq3 a b with hab|hab|hab
    ·rw[if_pos hab]
     have HT1:=Lib.hid (show q3r l ((q0h l.L).take (i+1))=q3r l ((q0h l.L).take i)++[b-a] by rw[q3r,HS2.out,q5s,if_neg (by omega),if_pos hab];simp[q3r])
     have HT2:=Lib.hid (show q4i l ((q0h l.L).take (i+1))=q4i l ((q0h l.L).take i)++[-v] by rw[q4i,HS2.out,q5s,if_neg (by omega),if_pos hab];simp[q4i])
     go_wp2_with fail
     refine(x1k _ p cv lv _ _ _ (b-a) (-v) w7 wx HB1.out hlen1 hlen2).mono ?_
     rintro e wy ⟨rfl,cv',lv',hby⟩
     have HBY:=Lib.hid hby
     clear hby
     go_wp2_with fail
     go_roundw
     case rel=>exact⟨i+1,cv',lv',by go_num,by omega,by rw[HT1.out,HT2.out,HE.out];exact HBY.out⟩
     case measure=>simp[intOf];omega
    ·have hab1:¬a<b:=by omega
     have hab2:¬b<a:=by omega
     rw[if_neg hab1,if_neg hab2]
     have HT1:=Lib.hid (show q3r l ((q0h l.L).take (i+1))=q3r l ((q0h l.L).take i) by rw[q3r,HS2.out,q5s,if_neg hab2,if_neg hab1];simp[q3r])
     have HT2:=Lib.hid (show q4i l ((q0h l.L).take (i+1))=q4i l ((q0h l.L).take i) by rw[q4i,HS2.out,q5s,if_neg hab2,if_neg hab1];simp[q4i])
     go_wp2_with fail
     go_roundw
     case rel=>exact⟨i+1,cv,lv,by go_num,by omega,by rw[HT1.out,HT2.out,HE.out];exact HB1.out⟩
     case measure=>simp[intOf];omega
    ·have hab1:¬a<b:=by omega
     rw[if_neg hab1,if_pos hab]
     have HT1:=Lib.hid (show q3r l ((q0h l.L).take (i+1))=q3r l ((q0h l.L).take i)++[a-b] by rw[q3r,HS2.out,q5s,if_pos hab];simp[q3r])
     have HT2:=Lib.hid (show q4i l ((q0h l.L).take (i+1))=q4i l ((q0h l.L).take i)++[v] by rw[q4i,HS2.out,q5s,if_pos hab];simp[q4i])
     go_wp2_with fail
     refine(x1k _ p cv lv _ _ _ (a-b) v w7 wx HB1.out hlen1 hlen2).mono ?_
     rintro e wy ⟨rfl,cv',lv',hby⟩
     have HBY:=Lib.hid hby
     clear hby
     go_wp2_with fail
     go_roundw
     case rel=>exact⟨i+1,cv',lv',by go_num,by omega,by rw[HT1.out,HT2.out,HE.out];exact HBY.out⟩
     case measure=>simp[intOf];omega
   ·obtain rfl:i=(q0h l.L).length:=by omega
    rw[Qd3]at HB
    obtain⟨Ac,cc,ecv,_,_⟩:=HB.out.c.rd
    obtain⟨Al,cl,elv,_,_⟩:=HB.out.l.rd
    subst ecv elv
    have hsum:=j5n HZ.out (q0h l.L).length
    rw[Qd3]at hsum
    have hmb:=x9x HZ.out (q0h l.L).length
    rw[Qd3]at hmb
    have hBb:=(q1l HZ.out).2.2.2.1
    have hbn1: -10000000000000000≤l.B-q2s l (q0h l.L):=by omega
    have hbn2:l.B-q2s l (q0h l.L)≤10000000000000000:=by omega
    have HNw:=Lib.hid (show q0j l=q6g l by rw[q0j,if_pos HZ.out])
    have HND:=Lib.hid (show q6g l=if l.B-q2s l (q0h l.L)≤0 then k4o else if q1e (q0u l (q0h l.L))<l.B-q2s l (q0h l.L)then⟨[],[],1⟩else⟨(q0u l (q0h l.L)).map fun q=>min q.1 (l.B-q2s l (q0h l.L)),q4i l (q0h l.L),l.B-q2s l (q0h l.L)⟩from rfl)
    generalize l.B-q2s l (q0h l.L)=bn at HB HND hbn1 hbn2
    have c2:wr.cell? ⟨p,2,none⟩=some (I64 bn):=HB.out.blk.cell 2
    clear hmb hBb
    have HE:=Lib.hid (HQ.out wr HB.out.k).2.2.1
    have HBl:=Lib.hid (HQ.out wr HB.out.k).2.2.2
    have HB2:=Lib.hid (HB.out.alloc (.cells #[I64 bn] 3))
    have HE2:=Lib.hid (HE.out.alloc (.cells #[I64 bn] 3))
    have HQ2:=Lib.hid (Blk.new wr 3 #[I64 bn])
    have HBl2:=Lib.hid (q3a HBl.out (q8b wr (.cells #[I64 bn] 3)))
    have f0:=HE2.out.frozen 0
    have f1:=HE2.out.frozen 1
    have f2:=HE2.out.frozen 2
    have d0:(wr.alloc (.cells #[I64 bn] 3)).cell? ⟨w.heap.size+1,0,none⟩=some (.slice none 0 0):=HE2.out.cell 0
    have d1:(wr.alloc (.cells #[I64 bn] 3)).cell? ⟨w.heap.size+1,1,none⟩=some (.slice none 0 0):=HE2.out.cell 1
    have d2:(wr.alloc (.cells #[I64 bn] 3)).cell? ⟨w.heap.size+1,2,none⟩=some (I64 0):=HE2.out.cell 2
    by_cases hb0:bn≤0
    ·have HN:=Lib.hid (show q0j l=k4o by rw[HNw.out,HND.out,if_pos hb0])
     go_wp2_with fail
     refine bodyPost_ret (results_cell_row rfl _ _ (w.heap.size+1) 57 #[.slice none 0 0,.slice none 0 0,I64 0] (0,0) _ rfl (j5p HE2.out _ _ _) Tryz.underlying57 rfl j4w) rfl ?_
     refine⟨none,none,0,0,by rw[HN.out];rfl,by rw[HN.out];exact z6z.nil _ _ _,z2x HBl2.out (by omega) _ _ _⟩
    ·clear f0 f1 f2 d0 d1 d2
     have HCq:=Lib.hid (show∀wx,Below (wr.alloc (.cells #[I64 bn] 3)).heap.size (wr.alloc (.cells #[I64 bn] 3)) wx→wx.cell? ⟨wr.heap.size,0,none⟩=some (I64 bn)from fun wx hx=>(hx.cell (p:=⟨wr.heap.size,0,none⟩) HQ2.out.lt).trans (HQ2.out.cell 0))
     have htl:(q4i l (q0h l.L)).length≤4096:=by
      have:=q8n l (q0h l.L)
      simp only[q4i,Qa9]
      omega
     obtain⟨ht1,ht2⟩:=k7d l (q0h l.L) 4503599627370496 hsum.2
     have hall:=u5o _ p _ _ _ _ _ w7 _ HB2.out.drew (j6t l (q0h l.L)) (by omega) (fun k=>by have:=ht1 k;omega) (fun c hc=>by have:=ht2 c hc;omega)
     rw[y9g]at hall
     have HAl:=Lib.hid hall
     have HT2:=Lib.hid ht2
     clear hall ht1 ht2
     have hqp:wr.heap.size≠p:=by have:=HB.out.blk.lt;omega
     have HQc:=Lib.hid (fun g (hg:(Value.slice Ac (q3r l (q0h l.L)).length cc).ownBlock=some g)=>show g≠wr.heap.size from by have:=HB.out.c.lt hg;omega)
     go_wp2_with fail
     clear HB HE HBl c2
     generalize wr.alloc (.cells #[I64 bn] 3)=wq at HB2 HE2 HQ2 HBl2 HCq HAl⊢
     generalize wr.heap.size=q at HQ2 HCq hqp HQc⊢
     have cq:=HCq.out wq (Below.refl _ _)
     go_region_held3 (fun w'=>w'.cell? ⟨q,0,none⟩=some (I64 bn)) (first|go_keep|(exact HCq.out _ BA.out))
      (first|(go_at_call 79;refine HAl.out.mono ?_;rintro e wa ⟨rfl,ba⟩;have BA:=Lib.hid (q3a (x3d (Below.refl _ _)) ba);clear ba))
     have HB3:=Lib.hid (HB2.out.below BA.out)
     have HE3:=Lib.hid (show Blk wa (w.heap.size+1) 57 #[.slice none 0 0,.slice none 0 0,I64 0]from(BA.out.block _ HE2.out.lt).trans HE2.out)
     have HBl3:=Lib.hid (q3a HBl2.out BA.out)
     have cq3:=HCq.out wa BA.out
     have HQ3:=Lib.hid (show Blk wa q 3 #[I64 bn]from(BA.out.block _ HQ2.out.lt).trans HQ2.out)
     clear HB2 HE2 HBl2 HCq HQ2 cq HAl BA
     by_cases hs:q1e (q0u l (q0h l.L))<bn
     ·have HN:=Lib.hid (show q0j l=⟨[],[],1⟩ by rw[HNw.out,HND.out,if_neg (show¬bn≤0 by omega),if_pos hs])
      have f0:=HE3.out.frozen 0
      have f1:=HE3.out.frozen 1
      have f2:=HE3.out.frozen 2
      have d0:wa.cell? ⟨w.heap.size+1,0,none⟩=some (.slice none 0 0):=HE3.out.cell 0
      have d1:wa.cell? ⟨w.heap.size+1,1,none⟩=some (.slice none 0 0):=HE3.out.cell 1
      have d2:wa.cell? ⟨w.heap.size+1,2,none⟩=some (I64 0):=HE3.out.cell 2
      go_wp2_with fail
      refine bodyPost_ret (results_cell_row rfl _ _ (w.heap.size+1) 57 #[.slice none 0 0,.slice none 0 0,I64 1] (0,0) _ rfl (j5p HE3.out _ _ _) Tryz.underlying57 rfl j4w) rfl ?_
      exact⟨none,none,0,0,by rw[HN.out];rfl,by rw[HN.out];exact z6z.nil _ _ _,z2x HBl3.out (by omega) _ _ _⟩
     ·have HN:=Lib.hid (show q0j l=⟨(q3r l (q0h l.L)).map (fun c=>min c bn),q4i l (q0h l.L),bn⟩ by rw[HNw.out,HND.out,if_neg (show¬bn≤0 by omega),if_neg hs,q3r,Ql8];rfl)
      go_wp2_with fail
      refine(k8o 81 [.pointer (some ⟨q,0,none⟩)] (fun c=>min c bn) _ p _ _ _ _ bn w7 wa HB3.out (by rw[j6t];omega) (enters_of Tryz.func81 (by kernel_rfl) rfl) (fun c _ wx hk=>x5u q c bn wx ((hk.cell (p:=⟨q,0,none⟩) HQ3.out.lt (fun h=>h.elim hqp (fun h=>HQc.out _ h rfl))).trans (HQ3.out.cell 0)))).mono ?_
      rintro e wb ⟨rfl,hb4,hk4⟩
      have HB4:=Lib.hid hb4
      have HQ4:=Lib.hid (HQ.out wb hb4.k)
      clear hb4 hk4
      have HE4:=Lib.hid HQ4.out.2.2.1
      have f0:=HE4.out.frozen 0
      have f1:=HE4.out.frozen 1
      have f2:=HE4.out.frozen 2
      have d0:wb.cell? ⟨w.heap.size+1,0,none⟩=some (.slice none 0 0):=HE4.out.cell 0
      have d1:wb.cell? ⟨w.heap.size+1,1,none⟩=some (.slice none 0 0):=HE4.out.cell 1
      have d2:wb.cell? ⟨w.heap.size+1,2,none⟩=some (I64 0):=HE4.out.cell 2
      have p0:wb.cell? ⟨p,0,none⟩=some (.slice Ac (q3r l (q0h l.L)).length cc):=HB4.out.blk.cell 0
      have p1:wb.cell? ⟨p,1,none⟩=some (.slice Al (q4i l (q0h l.L)).length cl):=HB4.out.blk.cell 1
      have p2:wb.cell? ⟨p,2,none⟩=some (I64 bn):=(HB4.out.blk.cell 2).trans (by simp)
      have hnp:¬w.heap.size+1=p:=HE4.out.ne_ HB4.out.blk (by decide)
      go_wp2_with fail
      refine bodyPost_ret (results_cell_row rfl _ _ (w.heap.size+1) 57 #[.slice Ac (q3r l (q0h l.L)).length cc,.slice Al (q4i l (q0h l.L)).length cl,I64 bn] (0,0) _ rfl (j5p HE4.out _ _ _) Tryz.underlying57 rfl j4w) rfl ?_
      have hw7:w.heap.size≤w7.heap.size:=(HQ.out w7 (Kp.refl _ _)).2.2.2.size
      have hcl:((q3r l (q0h l.L)).map (fun c=>min c bn)).length=(q3r l (q0h l.L)).length:=by simp
      refine⟨Ac,Al,cc,cl,by rw[HN.out];simp[k7s],?_,z2x HQ4.out.2.2.2 (by omega) _ _ _⟩
      rw[HN.out]
      refine⟨?_,HB4.out.l.set3 (HB4.out.l.ne_blk HE4.out (by decide)) _ _ _,?_,?_,fun g hg=>Qc0 hw7 (HB4.out.lB g hg),?_⟩
      ·rw[hcl];exact HB4.out.c.set3 (HB4.out.c.ne_blk HE4.out (by decide)) _ _ _
      ·rw[hcl];exact HB4.out.apart
      ·rw[hcl];exact fun g hg=>Qc0 hw7 (HB4.out.cB g hg)
      ·rw[hcl,j6t];exact⟨htl,htl⟩
 ·have hz':¬(0:Int)=q0o l 65536:=fun e=>hz e.symm
  have f0:=HE2.out.frozen 0
  have f1:=HE2.out.frozen 1
  have f2:=HE2.out.frozen 2
  have c0:w2.cell? ⟨w.heap.size+1,0,none⟩=some (.slice none 0 0):=HE2.out.cell 0
  have c1:w2.cell? ⟨w.heap.size+1,1,none⟩=some (.slice none 0 0):=HE2.out.cell 1
  have c2:w2.cell? ⟨w.heap.size+1,2,none⟩=some (I64 0):=HE2.out.cell 2
  have HN:=Lib.hid (show q0j l=k4o by rw[q0j,if_neg hz])
  go_wp2_with fail
  refine bodyPost_ret (results_cell_row rfl _ _ (w.heap.size+1) 57 #[.slice none 0 0,.slice none 0 0,I64 0] (0,0) _ rfl (j5p HE2.out _ _ _) Tryz.underlying57 rfl j4w) rfl ?_
  refine⟨none,none,0,0,by rw[HN.out];rfl,by rw[HN.out];exact z6z.nil _ _ _,z2x B3.out (by omega) _ _ _⟩
end Go.Proofs.YteikjpbbhopkaaaGreatDoor
