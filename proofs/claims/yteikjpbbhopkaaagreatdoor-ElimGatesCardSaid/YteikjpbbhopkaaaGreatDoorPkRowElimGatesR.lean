/- Lemmas and contracts for the row. -/
import Derived.Test.YteikjpbbhopkaaaGreatDoorPkRowElimGatesN
import Derived.Deep.LoopGhost
set_option linter.unusedVariables false
set_option linter.unusedSimpArgs false
set_option linter.unnecessarySimpa false
namespace Go.Proofs.YteikjpbbhopkaaaGreatDoor
open Go.RowKit Go.Shelf
theorem Own.cut_off {w:World} {e:TypeId} {g off n c k:Nat} {xs:List Value} (h:Own w e (.slice (some ⟨g,off,none⟩) n c) xs) (hk:k≤n):Own w e (.slice (some ⟨g,off+k,none⟩) (n-k) (c-k)) (xs.drop k):=by
 rcases h with⟨h,_⟩|⟨g',off',cap,cur,hv,hg,h1,h2,h3,h4⟩
 ·cases h
 ·injection hv with ha hn hc
  injection ha with ha
  injection ha with hb ho
  subst hb ho hc
  refine .inr ⟨g,off+k,c-k,cur,by rw[Qg2,hn],hg,by rw[Qg2];omega,by omega,by omega,fun j hj=>?_⟩
  rw[Qg2]at hj
  rw[Qq2,show off+k+j=off+(k+j) by omega]
  exact h4 (k+j) (by omega)
theorem Own.cut_full {w:World} {e:TypeId} {g off n:Nat} {xs:List Value} (h:Own w e (.slice (some ⟨g,off,none⟩) n n) xs):Own w e (.slice (some ⟨g,off,none⟩) 0 0) (xs.drop n):=by
 have hl:=h.len.1
 rcases h with⟨h,_⟩|⟨g',off',cap,cur,hv,hg,h1,h2,h3,h4⟩
 ·cases h
 ·injection hv with ha hn hc
  injection ha with ha
  injection ha with hb ho
  subst hb ho
  exact .inr ⟨g,off,0,cur,by rw[Qg2,hl,Qr7],hg,by rw[Qg2];omega,by omega,by omega,fun j hj=>by rw[Qg2]at hj;omega⟩
theorem y3x {w:World} {g off n c k:Nat} {ys:List Int} (h:Own w 3 (.slice (some ⟨g,off,none⟩) n c) (ys.map I64)) (hk:k≤n):Cl (fun _=>True) w (.slice (some ⟨g,off,none⟩) k k) (ys.take k):=by
 have hl:=h.len.1
 rw[Qa9]at hl
 refine⟨_,k,by rw[Qd0,Qr2 (by omega)],by rw[Qd0];omega,fun _=>⟨g,off,rfl,⟨h.ty0 rfl (by decide),trivial⟩,fun j hj=>?_⟩⟩
 rw[Qd0]at hj
 have:=(h.at_ (i:=j) (by rw[Qa9];omega)).1
 rw[this,Qg3,Qm0]
theorem u7w {E:Nat→Prop} {w:World} {p:Nat} {mv cv:Value} {nx:Int} {cs:List (List Int)} (h:St E w p mv nx cv cs):∃C cC,cv=.slice C cs.length cC∧cs.length≤cC∧RdL (· <w.heap.size) w C cs:=by
 obtain⟨vs,h1,h2,h3,h4⟩:=h
 have h2':=h2
 obtain⟨C,cC,e,hc,hcell⟩:=h2.cell
 rw[h3]at e hc
 refine⟨C,cC,e,hc,fun hn=>?_⟩
 obtain⟨b,off,e1,hb,_⟩:=hcell 0 (by omega)
 refine⟨b,off,e1,h2'.lt hb,fun j hj=>?_⟩
 obtain⟨b',off',e2,_,hc'⟩:=hcell j (by omega)
 rw[e1]at e2
 cases e2
 obtain⟨A',c',e3,h5,h6⟩:=h4 j (vs[j]'(by omega)) cs[j] (Qa0 (by omega)) (Qa0 hj)
 exact⟨A',c',by rw[hc',e3],h5,h6.mono (fun b hb=>hb.lt)⟩
section
variable {B:Nat} {w w':World} {p m bw bt:Nat} {f:Int→Option Value} {g:Int→Value} {rows:Int→List Int} {cs cs':List (List Int)} {nx nx':Int} {cv cv':Value} {top:Int} {k:Int}
theorem Sm.added (h:Sm B w p m bw bt g rows cs nx cv top) (ht:Stp p w cv w' cv') (hs:St (EB B g bt) w' p (.map (some m)) nx' cv' cs'):Sm B w' p m bw bt g rows cs' nx' cv' top:=by
 obtain⟨vs,h1,h2,h3,h4⟩:=h.st
 have hne:∀{b:Nat},T3 (fun _=>True) w b→¬(b=p∨cv.ownBlock=some b):=fun hb hm=>by
  rcases hm with hm|hm
  ·exact hb.ne_blk h1 (by decide) hm
  ·exact hb.ne_own h2 (by decide) hm
 refine⟨fun j=>(h.row j).kp ht.1 (fun b hb=>hne ⟨(h.row j).ty0 hb (by decide),trivial⟩),h.dist,h.far,hs,h.hbw.kp ht.1 (fun hm=>?_),h.hbt.kp ht.1 (hne ⟨⟨_,h.hbt⟩,trivial⟩),h.lp,h.lt,h.lr,fun b hb=>?_⟩
 ·rcases hm with hm|hm
  ·exact h.hbw.ne_ h1 (by decide) hm
  ·exact h2.ne_blk h.hbw (by decide) hm
 ·rcases ht.2 b hb with e|e
  ·exact h.lc b e
  ·exact Qc0 h.size e
theorem q2k.added (h:q2k B w p m bw bt f g rows cs nx cv top) (ht:Stp p w cv w' cv') (hs:St (EB B g bt) w' p (.map (some m)) nx' cv' cs'):q2k B w' p m bw bt f g rows cs' nx' cv' top∧Below B w w':=by
 obtain⟨vs,h1,h2,h3,h4⟩:=h.sm.st
 refine⟨⟨h.sm.added ht hs,h.map.kp ht.1 (fun hm=>?_),h.gf,h.lm⟩,ht.1.below (fun b hb _ hm=>?_) h.sm.size⟩
 ·rcases hm with hm|hm
  ·exact h.map.ne_blk h1 hm
  ·obtain⟨cur,hc⟩:=h2.ty0 hm (by decide)
   exact h.map.ne_blk hc rfl
 ·rcases hm with hm|hm
  ·have:=h.sm.lp;omega
  ·have:=h.sm.lc b hm;omega
theorem q2k.fresh (h:q2k B w p m bw bt f g rows cs nx cv top):∀b,w.heap.size≤b→EB B g bt b:=fun b hb=>
 ⟨fun k e=>by have:=(h.sm.row k).lt e;omega,fun e=>by have:=h.sm.hbt.lt;omega,Qc0 h.sm.size hb⟩
theorem q2k.cut {gg off off' n n' c c':Nat} {zs:List Int} {w6:World} (h:q2k B w p m bw bt f g rows cs nx cv top) (hg:g k=.slice (some ⟨gg,off,none⟩) n c) (hown:Own w 3 (.slice (some ⟨gg,off',none⟩) n' c') (zs.map I64))
 (hm6:q6r w6 m (upd f k (.slice (some ⟨gg,off',none⟩) n' c'))) (hg6:w.grownBy w6 (some m)):
 q2k B w6 p m bw bt (upd f k (.slice (some ⟨gg,off',none⟩) n' c')) (fun j=>if j=k then .slice (some ⟨gg,off',none⟩) n' c' else g j) (fun j=>if j=k then zs else rows j) cs nx cv top∧Below B w w6:=by
 have hk6:Kp (fun b=>b=m) w w6:=(Kp.of_grown hg6).mono (fun b _ e=>by injection e)
 have s5:=h.sm.grow (k:=k) (Kp.refl _ w) (.inl (by rw[hg];rfl)) hown
 refine⟨⟨s5.mapset h.map hk6,hm6,fun j hj=>?_,h.lm⟩,hk6.below (fun b hb _ hm=>by have:=h.lm;omega) h.sm.size⟩
 rw[y0g]
 by_cases hjk:j=k
 ·simp[hjk]
 ·simp only[hjk,if_false]
  exact h.gf j hj
theorem q2k.push {gg off n cap:Nat} {zs:List Int} {o:Obj} {w5:World} (h:q2k B w p m bw bt f g rows cs nx cv top) (hg:(w.alloc o).grownBy w5 (g (-1)).ownBlock) (hat:(g (-1)).ownBlock=some gg∨gg=(w.alloc o).heap.size)
 (hown:Own w5 3 (.slice (some ⟨gg,off,none⟩) n cap) (zs.map I64)):
 q2k B w5 p m bw bt f (fun j=>if j= -1 then .slice (some ⟨gg,off,none⟩) n cap else g j) (fun j=>if j= -1 then zs else rows j) cs nx cv top∧Below B w w5:=by
 have hk5:Kp (fun b=>(g (-1)).ownBlock=some b) w w5:=((Kp.refl (fun b=>(g (-1)).ownBlock=some b) w).alloc o).grown hg (fun _ e _=>e)
 refine⟨⟨h.sm.grow hk5 (hat.imp id (fun e=>by simp at e;omega)) hown,h.map.kp hk5 (fun e=>h.row_ne e),fun j hj=>?_,h.lm⟩,hk5.below (fun b hb _ hm=>by have:=h.sm.lr (-1) b hm;omega) h.sm.size⟩
 rw[if_neg (by omega)]
 exact h.gf j hj
theorem q2k.drewN (h:q2k B w p m bw bt f g rows cs nx cv top) (n:Nat):q2k B (w.drewN n) p m bw bt f g rows cs nx cv top:=
 ⟨⟨fun k=>(h.sm.row k).drewN n,h.sm.dist,h.sm.far,h.sm.st.drewN n,h.sm.hbw.drewN n,h.sm.hbt.drewN n,h.sm.lp,h.sm.lt,h.sm.lr,h.sm.lc⟩,h.map.kp ((Kp.refl (fun _=>False) w).drewN n) (fun h=>h),h.gf,h.lm⟩
theorem q2k.look (h:q2k B w p m bw bt f g rows cs nx cv top) (hk:0≤k):(Instr.lookup 161 (.map (some m)) (.int .i64 k) false).run Tryz.prog w=.ok (g k) w:=by
 rw[←h.gf k hk];exact q9x 161 3 34 (.slice none 0 0) Tryz.underlying161 Tryz.underlying3 z6t h.map k
end
theorem y8k {E F:Nat→Prop} (p:Nat) (mv cv:Value) (nx:Int) (A:Option Addr) (n c:Nat) (l:List Int) (cs:List (List Int)) (w:World) (hln:l.length=n)
 (h:St E w p mv nx cv cs) (hE:∀b,w.heap.size≤b→E b) (hn:cs.length<900000000) (hl:n=2∨n=3)
 (hr:Cl F w (.slice A n c) l) (hbd:∀x∈l,-1000000000≤x∧x≤1000000000) (h0:0≤nx) (h1:nx≤1000000):
 Calls Tryz.prog 127 #[.pointer (some ⟨p,0,none⟩),.slice A n c] w fun e w'=>e=.returned (.tuple #[I64 nx,I64 (nx+1)])∧
  ∃cv',St E w' p mv (nx+2) cv' (cs++q7y l nx (nx+1))∧Stp p w cv w' cv':=by
 subst hln
 exact u2u p mv cv nx A c l cs w h hE hn hl hr hbd h0 h1
end Go.Proofs.YteikjpbbhopkaaaGreatDoor
namespace Go.Proofs.YteikjpbbhopkaaaGreatDoor
open Go.RowKit Go.Shelf
theorem k6l (w:World) (next:Int):q2k w.heap.size ((((w.alloc (.map #[] 0)).alloc (.cells #[.map (some w.heap.size),.slice none 0 0,I64 next] 163)).alloc (.cells #[.pointer (some ⟨w.heap.size+1,0,none⟩)] 160)).alloc (.cells #[.int .i64 0] 3))
 (w.heap.size+1) w.heap.size (w.heap.size+1+1) (w.heap.size+1+1+1) (fun _=>none) (fun _=>.slice none 0 0) fd0.1 [] next (.slice none 0 0) 0:=by
 have e1:(w.alloc (.map #[] 0)).heap.size=w.heap.size+1:=by simp
 have e2:((w.alloc (.map #[] 0)).alloc (.cells #[.map (some w.heap.size),.slice none 0 0,I64 next] 163)).heap.size=w.heap.size+1+1:=by simp
 have e3:(((w.alloc (.map #[] 0)).alloc (.cells #[.map (some w.heap.size),.slice none 0 0,I64 next] 163)).alloc (.cells #[.pointer (some ⟨w.heap.size+1,0,none⟩)] 160)).heap.size=w.heap.size+1+1+1:=by simp
 have hp:=Blk.new (w.alloc (.map #[] 0)) 163 #[.map (some w.heap.size),.slice none 0 0,I64 next]
 have hw:=Blk.new ((w.alloc (.map #[] 0)).alloc (.cells #[.map (some w.heap.size),.slice none 0 0,I64 next] 163)) 160 #[.pointer (some ⟨w.heap.size+1,0,none⟩)]
 have ht:=Blk.new (((w.alloc (.map #[] 0)).alloc (.cells #[.map (some w.heap.size),.slice none 0 0,I64 next] 163)).alloc (.cells #[.pointer (some ⟨w.heap.size+1,0,none⟩)] 160)) 3 #[.int .i64 0]
 rw[e1]at hp
 rw[e2]at hw
 rw[e3]at ht
 refine⟨⟨fun k=>Own.nil _ _,fun k k' g h=>?_,fun k h=>?_,⟨[],(hp.alloc _).alloc _,Own.nil _ _,rfl,fun j v xs hv=>by simp at hv⟩,hw.alloc _,ht,by omega,by omega,fun k g h=>?_,fun g h=>?_⟩,?_,fun k _=>rfl,Qb8 _⟩
 ·simp[Value.ownBlock]at h
 ·simp[Value.ownBlock]at h
 ·simp[Value.ownBlock]at h
 ·simp[Value.ownBlock]at h
 ·exact(q6r.made w).kp ((((Kp.refl (fun _=>False) _).alloc _).alloc _).alloc _) (fun h=>h)
def st0 (coef l:List Int) (next:Int):Ps:={rows:=(q0n fd0 (coef.zip l)).1,cs:=[],nx:=next,top:=(q0n fd0 (coef.zip l)).2}
def v0a:Option (List Int×List (List Int)×Int)→u7l
 |none=>.err 2
 |some r=>.ok r.1 r.2.1 r.2.2
theorem k5v {coef l:List Int} {next:Int} (h1:¬(next<1∨65537<next∨coef.length≠l.length)) (h2:(coef.zip l).all (z8n next)=true) (h3:¬4096<l.length):z1o coef l next=v0a (q5y q8h 0 (st0 coef l next) []):=by
 rw[z1o,if_neg h1,if_neg (by rw[h2];simp),if_neg h3]
 show _=v0a (q5y q8h 0 {rows:=(q0n fd0 (coef.zip l)).1,cs:=[],nx:=next,top:=(q0n fd0 (coef.zip l)).2} [])
 cases q5y q8h 0 {rows:=(q0n fd0 (coef.zip l)).1,cs:=[],nx:=next,top:=(q0n fd0 (coef.zip l)).2} []<;>rfl
theorem u9n {coef l:List Int} {next:Int} (hn3:1≤next) (hn4:next≤65537) (h2:(coef.zip l).all (z8n next)=true) (h3:¬4096<l.length):k5z next (st0 coef l next):=by
 have hfo:q2f (q0n fd0 (coef.zip l)) (64*4096):=(q2f.all _ _ _ q2f.zero).mono (by simp;omega)
 have hlit:=z5p (coef.zip l) fd0 70000 (fun j x hx=>by simp[fd0]at hx) (fun q hq=>by
  have h1:=List.all_eq_true.1 h2 q hq
  simp only[z8n,Qa2,decide_eq_true_eq]at h1
  omega)
 refine⟨hn3,Qe6 _,hn4,fun j=>?_,by simp[st0],hfo.2.1,?_,hlit⟩
 ·have:=hfo.1 j;simp only[st0];omega
 ·have:=hfo.2.2;simp only[st0];omega
theorem u2v {B:Nat} {w:World} {p m bw bt:Nat} {f:Int→Option Value} {g:Int→Value} {coef l:List Int} {next:Int} {cv:Value} (h:q2k B w p m bw bt f g (q0n fd0 ((coef.zip l).take l.length)).1 [] next cv (q0n fd0 ((coef.zip l).take l.length)).2) (hl:coef.length=l.length):
 q2k B w p m bw bt f g (ext [] (st0 coef l next).rows) (st0 coef l next).cs (st0 coef l next).nx cv (st0 coef l next).top:=by
 rw[Qd6 (by simp;omega)]at h
 show q2k B w p m bw bt f g (ext [] (q0n fd0 (coef.zip l)).1) [] next cv (q0n fd0 (coef.zip l)).2
 rw[u5s _ (z7h _ _ rfl)]
 exact h
def k4f (w:World) (m p bw bt:Nat) (next:Int) (R:Option (List Int×List (List Int)×Int)) (ov:Value) (o:List Int) (k fu:Nat) (wr:World) (s:Ps) (f:Int→Option Value) (g:Int→Value) (cv:Value):Prop:=
 q2k m wr p m bw bt f g (ext o s.rows) s.cs s.nx cv s.top∧g (-1)=ov∧q5y fu k s o=R∧3*(70000-s.nx)+(s.top-(k:Int))<(fu:Int)∧k5z next s∧(k:Int)≤s.top∧o.length=k∧Below m w wr
theorem k5s {w:World} {m p bw bt:Nat} {next:Int} {R:Option (List Int×List (List Int)×Int)} {ov:Value} {o:List Int} {k fu:Nat} {wr:World} {s:Ps} {f:Int→Option Value} {g:Int→Value} {cv:Value} {r:u7l}
 (hr:r=v0a R) (h:k4f w m p bw bt next R ov o k fu wr s f g cv) (hk:¬(k:Int)<s.top) (n:Nat) (hm:w.heap.size=m):z3o w r (.returned (.tuple #[ov,cv,I64 s.nx,.int .i64 0])) (wr.drewN n):=by
 obtain⟨h1,h2,h3,h4,h5,h6,h7,h8⟩:=h
 have hfu:∃fu',fu=fu'+1:=⟨fu-1,by have:=h5.hi;omega⟩
 obtain⟨fu',rfl⟩:=hfu
 rw[k9a hk]at h3
 rw[hr,←h3]
 obtain⟨C,cC,e1,e2,e3⟩:=u7w h1.sm.st
 have ho:=h1.sm.row (-1)
 rw[h2]at ho
 have hex:ext o s.rows (-1)=o:=by simp[ext]
 rw[hex]at ho
 obtain⟨A,cA,e4,e5,e6⟩:=ho.rd
 have hlt:∀b,ov.ownBlock=some b→b<wr.heap.size:=fun b hb=>ho.lt hb
 have hbag:Bag w.heap.size wr cv s.cs:=by
  obtain⟨vs,_,q2,q3,q4⟩:=h1.sm.st
  exact⟨vs,q2,fun b hb=>by rw[hm];exact h1.sm.lc b hb,q3,fun j v xs hv hx=>(q4 j v xs hv hx).mono fun b _ hE=>by rw[hm];exact hE.2.2⟩
 have hbg:Bag w.heap.size (wr.drewN n) cv s.cs:=hbag.kp0 ((Kp.refl (fun _=>False) wr).drewN n)
 have hol:=fun b hb=>h1.sm.lr (-1) b (by rw[h2];exact hb)
 subst e1 e4
 exact⟨A,cA,C,cC,rfl,e5,e2,e6.mono hlt,e3,by rw[hm];exact⟨h8.os,h8.tape,h8.output,h8.size,h8.block⟩,ho.drewN n,fun b hb=>by rw[hm];exact hol b hb,hbg⟩
theorem u8s {w:World} {m p bw bt:Nat} {next:Int} {R:Option (List Int×List (List Int)×Int)} {ov:Value} {o:List Int} {k fu:Nat} {wr:World} {s:Ps} {f:Int→Option Value} {g:Int→Value} {cv:Value}
 (h:k4f w m p bw bt next R ov o k fu wr s f g cv):∃Ar cap len,(s.rows k).length=len∧g k=.slice Ar len cap∧len≤cap∧Own wr 3 (.slice Ar len cap) ((s.rows k).map I64)∧
  (Instr.lookup 161 (.map (some m)) (.int .i64 (k:Int)) false).run Tryz.prog wr=.ok (.slice Ar len cap) wr:=by
 have h1:=h.1.sm.row k
 rw[x9i o s.rows k (by omega)]at h1
 obtain⟨Ar,cap,e1,e2⟩:=h1.form
 rw[Qa9]at e1 e2
 have hl:=h.1.look (k:=k) (by omega)
 rw[e1]at h1 hl
 exact⟨Ar,cap,_,rfl,e1,e2,h1,hl⟩
section
variable {w:World} {m p bw bt:Nat} {next:Int} {R:Option (List Int×List (List Int)×Int)} {ov:Value} {o:List Int} {k fu:Nat} {wr w6:World} {s:Ps} {f:Int→Option Value} {g:Int→Value} {cv:Value} {rows:Int→List Int} {cs:List (List Int)} {nx top:Int} {r:u7l}
theorem k6c (h:q2k m wr p m bw bt f g rows cs nx cv top) (hg:wr.drew.grownBy w6 (some m)):w6.cell? ⟨bw,0,none⟩=some (.pointer (some ⟨p,0,none⟩))∧w6.cell? ⟨p,0,none⟩=some (.map (some m)):=
 ⟨hg.cell (a:=⟨bw,0,none⟩) (h.sm.hbw.cell 0) (fun e=>h.map.ne_blk h.sm.hbw (by injection e with e;exact e.symm)),hg.cell (a:=⟨p,0,none⟩) (h.sm.pblk.cell 0) (fun e=>h.map.ne_blk h.sm.pblk (by injection e with e;exact e.symm))⟩
theorem u9y {gg off n c j:Nat} {ys:List Int} (h:q2k m wr p m bw bt f g rows cs nx cv top) (ho:Own wr 3 (.slice (some ⟨gg,off,none⟩) n c) (ys.map I64)) (hg:wr.drew.grownBy w6 (some m)) (hj:j≤n) (hgk:g k=.slice (some ⟨gg,off,none⟩) n c):Cl (fun _=>True) w6 (.slice (some ⟨gg,off,none⟩) j j) (ys.take j):=by
 refine y3x ((ho.drewN 1).grown hg (.inr ?_)) hj
 have:=h.row_ne (k:=(k:Int))
 rw[hgk]at this
 exact this
theorem q3k {B n:Nat} {w w':World} (h:Below B (w.drewN n) w'):Below B w w':=⟨h.os,h.tape,h.output,h.size,h.block⟩
theorem y8m (h:k5z next s) (o:List Int) (k:Nat):((ext o (x5j s.rows k ((s.rows k).drop 3))) k).length≤1000000000:=by
 rw[x9i _ _ _ (by omega)]
 simp only[x5j,if_true,Qg2]
 have:=h.len k
 have:=h.hi
 have:=h.lo
 omega
theorem x1t (h:k5z next s) (o:List Int) (k:Nat):((z0l (ext o (x5j s.rows k ((s.rows k).drop 3))) k s.nx) ((k:Int)+1)).length≤1000000000:=by
 have e:¬(k:Int)+1=k:=by omega
 simp only[z0l,e,if_false]
 rw[x9i _ _ _ (by omega)]
 simp only[x5j,e,if_false]
 have:=h.len (k+1)
 have:=h.hi
 have:=h.lo
 omega
theorem q9r (hr:r=v0a R) (h:k4f w m p bw bt next R ov o k fu wr s f g cv) (hk:(k:Int)<s.top) (hl:1<(s.rows k).length) (hf:65537<s.nx+2) (hm:w.heap.size=m) {w':World} (hb:Below m wr w'):
 z3o w r (.returned (.tuple #[.slice none 0 0,.slice none 0 0,I64 0,I64 2])) w':=by
 obtain⟨h1,h2,h3,h4,h5,h6,h7,h8⟩:=h
 obtain⟨fu',rfl⟩:∃fu',fu=fu'+1:=⟨fu-1,by have:=h5.hi;omega⟩
 rw[x7g hk hl hf]at h3
 rw[hr,←h3]
 exact⟨rfl,by rw[hm];exact h8.trans hb⟩
theorem u4b (l:List Int) (h:0<l.length):l.headD 0=l[0]:=by
 cases l with
 |nil=>simp at h
 |cons a l=>rfl
theorem k1i (l:List Int) (h:l.length=0):l.headD 0=0:=by rw[Qc8 h];rfl
theorem u9u (h:k4f w m p bw bt next R ov o k fu wr s f g cv):Own wr 3 ov (o.map I64):=by
 have ho:=h.1.sm.row (-1)
 rw[h.2.1]at ho
 have hex:ext o s.rows (-1)=o:=by simp[ext]
 rwa [hex]at ho
theorem j1u {g2 o2 cp2:Nat} {x0:Int} {ob:Obj} {w5:World} (h:k4f w m p bw bt next R ov o k fu wr s f g cv) (hk:(k:Int)<s.top) (hl:¬1<(s.rows k).length) (hx:(s.rows k).headD 0=x0)
 (hg:(wr.alloc ob).grownBy w5 ov.ownBlock) (hat:ov.ownBlock=some g2∨g2=wr.heap.size+1) (hown:Own w5 3 (.slice (some ⟨g2,o2,none⟩) (k+1) cp2) (o.map I64++[I64 x0])):
 fu-1<fu∧k4f w m p bw bt next R (.slice (some ⟨g2,o2,none⟩) (k+1) cp2) (o++[x0]) (k+1) (fu-1) w5 s f (fun j=>if j= -1 then .slice (some ⟨g2,o2,none⟩) (k+1) cp2 else g j) cv:=by
 obtain⟨h1,h2,h3,h4,h5,h6,h7,h8⟩:=h
 obtain⟨fu',rfl⟩:∃fu',fu=fu'+1:=⟨fu-1,by have:=h5.hi;omega⟩
 rw[x9u hk hl,hx]at h3
 rw[←h2]at hg hat
 have hp:=h1.push hg (hat.imp id (fun e=>by simp;exact e)) (zs:=o++[x0]) (by rw[Qd4];exact hown)
 rw[k6z]at hp
 refine⟨by omega,hp.1,rfl,by exact_mod_cast h3,?_,h5,by omega,by simp[h7],h8.trans hp.2⟩
 have:=h5.hi
 push_cast
 omega
theorem q9y {f9:Int→Option Value} {g9:Int→Value} {cv9:Value} {w9:World} (h:k4f w m p bw bt next R ov o k fu wr s f g cv) (hk:(k:Int)<s.top) (hl:1<(s.rows k).length) (hf:s.nx+2≤65537)
 (h9:q2k m w9 p m bw bt f9 g9 (z0l (z0l (ext o (x5j s.rows k ((s.rows k).drop 3))) k s.nx) ((k:Int)+1) (s.nx+1)) (s.cs++q7y ((s.rows k).take 3) s.nx (s.nx+1)) (s.nx+2) cv9 (max (max s.top ((k:Int)+1)) ((k:Int)+1+1)))
 (hg:g9 (-1)=ov) (hb:Below m wr w9):fu-1<fu∧k4f w m p bw bt next R ov o k (fu-1) w9 (q1f k s) f9 g9 cv9∧(k:Int)<(q1f k s).top:=by
 obtain⟨h1,h2,h3,h4,h5,h6,h7,h8⟩:=h
 obtain⟨fu',rfl⟩:∃fu',fu=fu'+1:=⟨fu-1,by have:=h5.hi;omega⟩
 rw[k7y hk hl hf]at h3
 rw[x0f _ _ _ _ (by omega),x0f _ _ _ _ (by omega)]at h9
 have hps:=h5.step k (by omega) hk hf
 have et:(q1f k s).top=max (max s.top ((k:Int)+1)) ((k:Int)+1+1):=rfl
 have en:(q1f k s).nx=s.nx+2:=rfl
 refine⟨by omega,⟨h9,hg,h3,?_,hps,by rw[et];omega,h7,h8.trans hb⟩,by rw[et];omega⟩
 rw[et,en]
 have:=h5.hi
 omega
end
theorem k1j {zl:List (Int×Int)} {k:Nat} {e:Int×Int} {next:Int} (h:zl.take (k+1)=zl.take k++[e]) (he:z8n next e=false):zl.all (z8n next)=false:=by
 cases ha:zl.all (z8n next)with
 |false=>rfl
 |true=>
  have hm:e∈zl:=Qf2 (i:=k+1) (by rw[h];simp)
  rw[List.all_eq_true.1 ha e hm]at he
  cases he
set_option maxRecDepth 100000 in
set_option maxHeartbeats 3200000 in
theorem u8c (A L:Option Addr) (cA cL:Nat) (coef l:List Int) (next:Int) (w:World) (ha:Rd I64 (· <w.heap.size) w A coef) (hl:Rd I64 (· <w.heap.size) w L l) (hT:TabAt w)
 (hla:coef.length≤1000000000) (hll:l.length≤1000000000) (hn3:1≤next) (hn4:next≤65537) (hlen:coef.length=l.length):
 Calls Tryz.prog 110 #[.slice A coef.length cA,.slice L l.length cL,I64 next] w (z3o w (z1o coef l next)):=by
 obtain⟨i0,hi,hz0,hz1,hz2⟩:=info_parts q6a
 have HI:=Lib.hid (And.intro hi (And.intro hz0 (And.intro hz1 hz2)))
 have HA:=Lib.hid ha
 have HLr:=Lib.hid hl
 have HT:=Lib.hid hT
 clear ha hl hT hi hz0 hz1 hz2
 have hne:((coef.length:Int) !=(l.length:Int))=false:=by simp;omega
 have HG:=Lib.hid (show¬(next<1∨65537<next∨coef.length≠l.length) by omega)
 have HLen:=Lib.hid hlen
 have d1:decide (next<1)=false:=by simp;omega
 have d2:decide (65537<next)=false:=by simp;omega
 clear hlen
 go_enter Tryz.func110,Tryz.ntmps110
 go_wp2_with fail
 clear hne
 go_loop [6,40] (fun o i=>o=.slice none 0 0∧∃k:Nat,i=.int .i64 k∧k≤l.length∧((coef.zip l).take k).all (z8n next)=true) (fun _ i=>l.length-(intOf i).toNat)
 case atStart=>exact⟨rfl,0,rfl,Qc1 _,rfl⟩
 case round=>
  obtain⟨rfl,k,rfl,hk,hall⟩:=hrel
  have HAll:=Lib.hid hall
  clear hall
  by_cases hlt:k<l.length
  ·obtain⟨lb,lo,rfl,_,cl⟩:=HLr.out.at_ hlt
   have hlt':k<coef.length:=by rw[HLen.out];exact hlt
   obtain⟨ab,ao,rfl,_,ca⟩:=HA.out.at_ hlt'
   have hz:k<(coef.zip l).length:=by simp;omega
   have htk:(coef.zip l).take (k+1)=(coef.zip l).take k++[(coef[k],l[k])]:=by rw[Qb9 hz,Qj5]
   generalize coef[k]=q at ca htk
   generalize l[k]=x at cl htk
   have HTk:=Lib.hid htk
   clear htk
   have i1:(k:Int)<(coef.length:Int):=by omega
   by_cases hok:z8n next (q,x)=true
   ·have HOk:=Lib.hid hok
    simp only[z8n,Qa2,decide_eq_true_eq]at hok
    obtain⟨⟨⟨⟨o1,o2⟩,o3⟩,o4⟩,o5⟩:=hok
    have o3':(x==0)=false:=by simpa using o3
    clear o3
    go_wp2_with fail
    go_round
    case rel=>exact⟨rfl,k+1,by go_num,by omega,by rw[HTk.out,Qj0,HAll.out];simpa using HOk.out⟩
    case measure=>simp[intOf];omega
   ·have hr:Hid (z1o coef l next=.err 1):=by show _=_;rw[z1o,if_neg HG.out,if_pos (k1j HTk.out (by simpa using hok))]
    have HOk:=Lib.hid hok
    clear hok
    by_cases b1:q<0
    ·go_wp2_with fail
     refine bodyPost_ret (q0y rfl _ _ _) rfl ?_
     rw[hr.out];exact⟨rfl,Below.refl _ _⟩
    ·by_cases b2:1099511627776<q
     ·go_wp2_with fail
      refine bodyPost_ret (q0y rfl _ _ _) rfl ?_
      rw[hr.out];exact⟨rfl,Below.refl _ _⟩
     ·by_cases b3:x=0
      ·have b3':(x==0)=true:=by simpa using b3
       clear b3
       go_wp2_with fail
       refine bodyPost_ret (q0y rfl _ _ _) rfl ?_
       rw[hr.out];exact⟨rfl,Below.refl _ _⟩
      ·have b3':(x==0)=false:=by simpa using b3
       have HB3:=Lib.hid b3
       clear b3
       by_cases b4:next≤x
       ·go_wp2_with fail
        refine bodyPost_ret (q0y rfl _ _ _) rfl ?_
        rw[hr.out];exact⟨rfl,Below.refl _ _⟩
       ·by_cases b5:x≤-next
        ·go_wp2_with fail
         refine bodyPost_ret (q0y rfl _ _ _) rfl ?_
         rw[hr.out];exact⟨rfl,Below.refl _ _⟩
        ·exact absurd (show z8n next (q,x)=true by simp only[z8n,Qa2,decide_eq_true_eq];exact⟨⟨⟨⟨by omega,by omega⟩,HB3.out⟩,by omega⟩,by omega⟩) HOk.out
  ·obtain rfl:k=l.length:=by omega
   have hall:(coef.zip l).all (z8n next)=true:=by have:=HAll.out;rwa [Qd6 (by simp;omega)]at this
   have HAll':=Lib.hid hall
   clear hall
   by_cases hbig:4096<l.length
   ·have hr:Hid (z1o coef l next=.err 2):=by show _=_;rw[z1o,if_neg HG.out,if_neg (by rw[HAll'.out];simp),if_pos hbig]
    go_wp2_with fail
    refine bodyPost_ret (q0y rfl _ _ _) rfl ?_
    rw[hr.out];exact⟨rfl,Below.refl _ _⟩
   ·have hmm:= @run_makeMap Tryz.prog
    have d3:decide (4096<(l.length:Int))=false:=by simp;omega
    go_wp2_with fail
    clear hmm d3
    obtain⟨W,hW⟩:∃W:World,W=(((w.alloc (.map #[] 0)).alloc (.cells #[.map (some w.heap.size),.slice none 0 0,I64 next] 163)).alloc (.cells #[.pointer (some ⟨w.heap.size+1,0,none⟩)] 160)).alloc (.cells #[.int .i64 0] 3):=⟨_,rfl⟩
    rw[←hW]
    have hst:=k6l w next
    rw[←hW]at hst
    have hbw:Below w.heap.size w W:=by rw[hW];exact((((Below.refl _ w).alloc (Qb8 _) _).alloc (by simp) _).alloc (by simp;omega) _).alloc (by simp;omega) _
    generalize w.heap.size+1+1+1=bt at hst⊢
    generalize w.heap.size+1+1=bw at hst⊢
    generalize w.heap.size+1=p at hst⊢
    generalize hmm:w.heap.size=m at hst hbw⊢
    have HM:=Lib.hid hmm
    have HS0:=Lib.hid hst
    have HB0:=Lib.hid hbw
    clear hmm hst hbw hW
    go_loopw [83] (fun i wr=>∃(k:Nat) (f:Int→Option Value) (g:Int→Value),i=.int .i64 k∧k≤l.length∧q2k m wr p m bw bt f g (q0n fd0 ((coef.zip l).take k)).1 [] next (.slice none 0 0) (q0n fd0 ((coef.zip l).take k)).2∧Below m w wr∧g (-1)=.slice none 0 0) (fun i _=>l.length-(intOf i).toNat)
    case atStart=>exact⟨0,_,_,rfl,Qc1 _,HS0.out,HB0.out,rfl⟩
    case round=>
     obtain⟨k,f,g,rfl,hk,s1,b1,n1⟩:=hrel
     have HS1:=Lib.hid s1
     have HB1:=Lib.hid b1
     have HN1:=Lib.hid n1
     clear s1 b1 n1
     by_cases hlt:k<l.length
     ·obtain⟨lb,lo,rfl,_,cl⟩:=(show Rd I64 (· <m) wr L l from(show Rd I64 (· <m) w L l by rw[←HM.out];exact HLr.out).below HB1.out).at_ hlt
      have hlt':k<coef.length:=by rw[HLen.out];exact hlt
      obtain⟨ab,ao,rfl,_,ca⟩:=(show Rd I64 (· <m) wr A coef from(show Rd I64 (· <m) w A coef by rw[←HM.out];exact HA.out).below HB1.out).at_ hlt'
      have hz:k<(coef.zip l).length:=by simp;omega
      have htk:(coef.zip l).take (k+1)=(coef.zip l).take k++[(coef[k],l[k])]:=by rw[Qb9 hz,Qj5]
      have hok:=List.all_eq_true.1 HAll'.out (coef[k],l[k]) (by rw[←Qj5 (h:=hz)];exact Qc7 hz)
      generalize coef[k]=q at ca htk hok
      generalize l[k]=x at cl htk hok
      simp only[z8n,Qa2,decide_eq_true_eq]at hok
      obtain⟨⟨⟨⟨o1,o2⟩,o3⟩,o4⟩,o5⟩:=hok
      obtain⟨c,rfl⟩:=Qi4 o1
      have hfo:q2f (q0n fd0 ((coef.zip l).take k)) (64*4096):=(q2f.all _ _ _ q2f.zero).mono (by simp;omega)
      have hsn:=y1v fd0 ((coef.zip l).take k) ((c:Int),x)
      rw[←htk]at hsn
      simp only[Int.toNat_natCast]at hsn
      generalize hst:q0n fd0 ((coef.zip l).take k)=st at hsn hfo HS1
      have HSN:=Lib.hid hsn
      have HFO:=Lib.hid hfo
      have i1:(k:Int)<(coef.length:Int):=by omega
      clear htk hst hsn hfo o3
      go_wp2_with fail
      obtain⟨wo,rfl⟩:∃wo:World,wo=wr:=⟨_,rfl⟩
      go_loopw [17] (fun v wr=>∃(j n:Nat) (f:Int→Option Value) (g:Int→Value),v=.int .u64 n∧j≤64∧n=c/2^j*2^j∧q2k m wr p m bw bt f g (feedTo c x st j).1 [] next (.slice none 0 0) (feedTo c x st j).2∧Below m w wr∧g (-1)=.slice none 0 0) (fun v _=>(intOf v).toNat)
      case atStart=>exact⟨0,c,f,g,rfl,by omega,by simp,HS1.out,HB1.out,HN1.out⟩
      case round=>
       obtain⟨j,n,f2,g2,rfl,hj,hn,s2,b2,n2⟩:=hrel
       have HN2:=Lib.hid n2
       have hnc:n≤c:=by rw[hn];exact Nat.div_mul_le_self _ _
       have HN:=Lib.hid hn
       have HS2:=Lib.hid s2
       have HB2:=Lib.hid b2
       clear hn s2 b2 n2
       by_cases hn0:0<n
       ·have htz:=fun W hW=>u1r n (by omega) (by omega) W hW
        obtain⟨mm,hnt,ht64⟩:=Lib.ctzFrom_spec 64 n hn0 (by omega)
        rw[show Lib.ctzFrom 64 n=Lib.ctz 64 n by unfold Lib.ctz;rw[if_neg (by omega)]]at hnt ht64
        generalize Lib.ctz 64 n=t at htz hnt ht64
        obtain⟨f1,f2',f3,f4⟩:=j9i c j n t mm HN.out hnt
        have hfs:feedTo c x st (t+1)=feed1 (feedTo c x st j) x t:=by rw[q2i,if_pos f2',z7j c x st j t f1 f3]
        have hfo2:=HFO.out.feedTo c x j hj
        have hand:bits BinOp.and IntKind.u64 (n:Int) ((n:Int)-1)=((n&&&(n-1):Nat):Int):=by
         rw[show(n:Int)-1=((n-1:Nat):Int) by omega]
         exact bits_and_u64_nat n (n-1) (by omega) (by omega)
        have hdec:n&&&(n-1)≤n-1:=Nat.and_le_right
        have HTZ:=Lib.hid htz
        have HFS:=Lib.hid hfs
        have HF4:=Lib.hid f4
        have HFO2:=Lib.hid hfo2
        have HAND:=Lib.hid hand
        clear htz hnt f2' f3 f4 hfs hfo2 hand
        go_wp2_with fail
        refine(HTZ.out _ (HT.out.below (by rw[HM.out];exact HB2.out))).mono ?_
        rintro e w4 ⟨rfl,rfl⟩
        go_wp2_with fail
        refine(q7o m p m bw bt f2 g2 _ [] next (.slice none 0 0) _ (t:Int) x wr HS2.out (by omega) (by omega) (Qc0 (HFO2.out.1 _) (by omega))).mono ?_
        rintro e w5 ⟨rfl,f5,g5,s5,b5,n5⟩
        have HS5:=Lib.hid s5
        have HB5:=Lib.hid b5
        have HN5:=Lib.hid (n5.trans HN2.out)
        clear s5 b5 n5
        go_wp2_with fail
        go_roundw
        case rel=>exact⟨t+1,n&&&(n-1),f5,g5,by rw[HAND.out],by omega,HF4.out,by rw[HFS.out];exact HS5.out,HB2.out.trans HB5.out,HN5.out⟩
        case measure=>rw[HAND.out];simp[intOf];omega
       ·go_wp2_with fail
        go_roundw
        case rel=>exact⟨k+1,f2,g2,by go_num,by omega,by rw[HSN.out,k8d c j x st hj (by rw[←HN.out];omega)];exact HS2.out,HB2.out,HN2.out⟩
        case measure=>simp[intOf];omega
     ·obtain rfl:k=l.length:=by omega
      have hR:=k5v HG.out HAll'.out hbig
      have hps:=u9n hn3 hn4 HAll'.out hbig
      have hst0:=u2v HS1.out HLen.out
      generalize hs0:st0 coef l next=s0 at hR hps hst0
      have hnx0:s0.nx=next:=by rw[←hs0];rfl
      have hfu:3*(70000-s0.nx)+(s0.top-0)<(q8h:Int):=by have:=hps.lo;have:=hps.top;have:=hps.nx;unfold q8h;omega
      generalize hRR:q5y q8h 0 s0 []=R at hR
      have HR:=Lib.hid hR
      have HPS:=Lib.hid hps
      have HST0:=Lib.hid hst0
      have HRR:=Lib.hid hRR
      have HFU:=Lib.hid hfu
      clear hR hps hst0 hs0 hnx0 hRR hfu
      go_wp2_with fail
      go_loopg [6,18] q8h (fun fu ov kv wr=>∃k:Nat,kv=.int .i64 k∧∃s f g cv o,k4f w m p bw bt next R ov o k fu wr s f g cv)
      case atStart=>exact⟨0,rfl,s0,f,g,_,[],HST0.out,HN1.out,HRR.out,HFU.out,HPS.out,HPS.out.top0,rfl,HB1.out⟩
      case round=>
       obtain⟨k,rfl,s,f,g,cv,o,hrel⟩:=hrel
       have HRel:=Lib.hid hrel
       have cbt:wr.cell? ⟨bt,0,none⟩=some (I64 s.top):=hrel.1.sm.hbt.cell 0
       have hkt0:(k:Int)≤s.top:=hrel.2.2.2.2.2.1
       have htop:s.top≤64+(s.nx-next):=hrel.2.2.2.2.1.top
       have hnx:s.nx≤65537:=hrel.2.2.2.2.1.hi
       clear hrel
       by_cases hkt:(k:Int)<s.top
       ·go_wp2_with fail
        obtain⟨wo,rfl⟩:∃wo:World,wo=wr:=⟨_,rfl⟩
        obtain⟨gko,rfl⟩:∃gko:Nat,gko=gk:=⟨_,rfl⟩
        clear cbt hkt0 htop hnx
        obtain⟨ov,rfl⟩:∃ov:Value,ov=u6:=⟨_,rfl⟩
        go_loopg [6,110] gko (fun fu o6 _ wr=>o6=ov∧fu≤gko∧∃s f g cv,k4f w m p bw bt next R ov o k fu wr s f g cv∧(k:Int)<s.top)
        case atStart=>exact⟨rfl,Qb8 _,s,f,g,cv,HRel.out,hkt⟩
        case round=>
         obtain⟨rfl,hfu,s,f,g,cv,hrel,hkt⟩:=hrel
         have HRel:=Lib.hid hrel
         have c1:wr.cell? ⟨bw,0,none⟩=some (.pointer (some ⟨p,0,none⟩)):=hrel.1.sm.hbw.cell 0
         have c2:wr.cell? ⟨p,0,none⟩=some (.map (some m)):=hrel.1.sm.pblk.cell 0
         have htop:s.top≤64+(s.nx-next):=hrel.2.2.2.2.1.top
         have hnx:s.nx≤65537:=hrel.2.2.2.2.1.hi
         have hnx':next≤s.nx:=hrel.2.2.2.2.1.nx
         obtain⟨Ar,cap,len,hlen,hgk,hcap,hown,hlk⟩:=u8s hrel
         have hlb:(len:Int)≤262144+(s.nx-next):=by rw[←hlen];exact hrel.2.2.2.2.1.len k
         have HLen2:=Lib.hid hlen
         have HGk:=Lib.hid hgk
         have HOwn:=Lib.hid hown
         clear hrel hlen hgk hown
         by_cases hln:1<len
         ·obtain⟨gg,off,rfl⟩:=HOwn.out.addr (by omega)
          by_cases hle:3≤len
          ·by_cases hc3:cap=3
           ·obtain rfl:=hc3
            obtain rfl:len=3:=by omega
            have hlk':(Instr.lookup 161 (.map (some m)) (.int .i64 (k:Int)) false).run Tryz.prog wr.drew=.ok (.slice (some ⟨gg,off,none⟩) 3 3) wr.drew:=by
             have h1:=(HRel.out.1.drewN 1).look (k:=(k:Int)) (by omega)
             rw[HGk.out]at h1
             exact h1
            obtain⟨w6,hr6,hm6,hg6,hz6⟩:=z0t (P:=Tryz.prog) (w:=wr.drew) 161 3 34 Tryz.underlying161 Tryz.underlying3 (HRel.out.1.drewN 1).map (k:Int) (.slice (some ⟨gg,off,none⟩) 0 0)
            have hK:=k6c HRel.out.1 hg6
            have h6:=(HRel.out.1.drewN 1).cut (k:=(k:Int)) (zs:=(s.rows k).drop 3) HGk.out (by rw[Qq6];exact(HOwn.out.drewN 1).cut_full) hm6 hg6
            rw[j7u o s.rows k _ (by omega)]at h6
            have hcl6:=u9y HRel.out.1 HOwn.out hg6 (show 3≤3 by omega) HGk.out
            have htk:(s.rows k).take 3=(s.rows k).take 3:=by rfl
            rw[htk]at hcl6
            have hlt6:((s.rows k).take 3).length=3:=by rw[Qd0,HLen2.out];omega
            have hg61:=(show(if(-1:Int)=(k:Int)then(Value.slice (some ⟨gg,off,none⟩) 0 0)else g (-1))=g (-1)from if_neg (by omega)).trans HRel.out.2.1
            have HK6:=Lib.hid hK
            have H6:=Lib.hid h6
            have HCL6:=Lib.hid hcl6
            have HLT6:=Lib.hid hlt6
            have HG61:=Lib.hid hg61
            clear hK h6 hcl6 htk hlt6 hm6 hg6 hz6 hg61
            go_wp2_with fail
            go_region_held3 (fun w'=>w'.cell? ⟨bw,0,none⟩=some (.pointer (some ⟨p,0,none⟩))∧w'.cell? ⟨p,0,none⟩=some (.map (some m))) (first|go_keep|exact HK6.out) (fail)
            clear hlk hlk' hr6 c1 c2
            have hPS:=HRel.out.2.2.2.2.1
            have c6:w6.cell? ⟨bw,0,none⟩=some (.pointer (some ⟨p,0,none⟩)):=HK6.out.1
            have hcsl:s.cs.length<900000000:=by have:=hPS.cl;have:=hPS.lo;omega
            have HPS:=Lib.hid hPS
            clear hPS
            go_wp2_with fail
            refine(y8k p (.map (some m)) cv s.nx (some ⟨gg,off,none⟩) 3 3 ((s.rows k).take 3) s.cs w6 HLT6.out H6.out.1.sm.st H6.out.1.fresh hcsl (by omega) HCL6.out (fun x hx=>by have:=HPS.out.lit k x (Qf2 hx);omega) (by have:=HPS.out.lo;omega) (by omega)).mono ?_
            rintro e w7 ⟨rfl,cv7,s7,t7⟩
            have h7:=H6.out.1.added t7 s7
            have c7:w7.cell? ⟨bw,0,none⟩=some (.pointer (some ⟨p,0,none⟩)):=h7.1.sm.hbw.cell 0
            have c7':w7.cell? ⟨p,2,none⟩=some (I64 (s.nx+2)):=h7.1.sm.pblk.cell 2
            have H7:=Lib.hid h7
            clear s7 t7 h7
            by_cases hfull:65537<s.nx+2
            ·have hfl:decide (65537<s.nx+2)=true:=by simp;omega
             go_wp2_with fail
             refine bodyPost_ret (q0y rfl _ _ _) rfl ?_
             exact q9r HR.out HRel.out hkt (by rw[HLen2.out];omega) hfull HM.out (q3k (H6.out.2.trans H7.out.2))
            ·go_wp2_with fail
             refine(q7o m p m bw bt _ _ _ _ (s.nx+2) cv7 s.top (k:Int) s.nx w7 H7.out.1 (by omega) (by omega) (y8m HPS.out o k)).mono ?_
             rintro e w8 ⟨rfl,f8,g8,h8,b8,n8⟩
             have H8:=Lib.hid h8
             have HB8:=Lib.hid b8
             have HN8:=Lib.hid n8
             clear h8 b8 n8
             go_wp2_with fail
             refine(q7o m p m bw bt _ _ _ _ (s.nx+2) cv7 (max s.top ((k:Int)+1)) ((k:Int)+1) (s.nx+1) w8 H8.out (by omega) (by omega) (x1t HPS.out o k)).mono ?_
             rintro e w9 ⟨rfl,f9,g9,h9,b9,n9⟩
             have hend:=q9y HRel.out hkt (by rw[HLen2.out];omega) (by omega) h9 (n9.trans (HN8.out.trans HG61.out)) (q3k (H6.out.2.trans (H7.out.2.trans (HB8.out.trans b9))))
             have HEnd:=Lib.hid hend
             clear h9 b9 n9 hend
             go_wp2_with fail
             go_roundg (gk-1)
             case measure=>exact HEnd.out.1
             case rel=>exact⟨rfl,by omega,q1f k s,f9,g9,cv7,HEnd.out.2.1,HEnd.out.2.2⟩
           ·have hcc:3<cap:=by omega
            have hb1:(3:Int)≤(len:Int):=by omega
            have hb2:(len:Int)≤(cap:Int):=by omega
            have hlk':(Instr.lookup 161 (.map (some m)) (.int .i64 (k:Int)) false).run Tryz.prog wr.drew=.ok (.slice (some ⟨gg,off,none⟩) len cap) wr.drew:=by
             have h1:=(HRel.out.1.drewN 1).look (k:=(k:Int)) (by omega)
             rw[HGk.out]at h1
             exact h1
            obtain⟨w6,hr6,hm6,hg6,hz6⟩:=z0t (P:=Tryz.prog) (w:=wr.drew) 161 3 34 Tryz.underlying161 Tryz.underlying3 (HRel.out.1.drewN 1).map (k:Int) (.slice (some ⟨gg,off+3,none⟩) (len-3) (cap-3))
            have hK:=k6c HRel.out.1 hg6
            have h6:=(HRel.out.1.drewN 1).cut (k:=(k:Int)) (zs:=(s.rows k).drop 3) HGk.out (by rw[Qq6];exact(HOwn.out.drewN 1).cut_off (by omega)) hm6 hg6
            rw[j7u o s.rows k _ (by omega)]at h6
            have hcl6:=u9y HRel.out.1 HOwn.out hg6 (show 3≤len by omega) HGk.out
            have htk:(s.rows k).take 3=(s.rows k).take 3:=by rfl
            rw[htk]at hcl6
            have hlt6:((s.rows k).take 3).length=3:=by rw[Qd0,HLen2.out];omega
            have hg61:=(show(if(-1:Int)=(k:Int)then(Value.slice (some ⟨gg,off+3,none⟩) (len-3) (cap-3))else g (-1))=g (-1)from if_neg (by omega)).trans HRel.out.2.1
            have HK6:=Lib.hid hK
            have H6:=Lib.hid h6
            have HCL6:=Lib.hid hcl6
            have HLT6:=Lib.hid hlt6
            have HG61:=Lib.hid hg61
            clear hK h6 hcl6 htk hlt6 hm6 hg6 hz6 hg61
            go_wp2_with fail
            go_region_held3 (fun w'=>w'.cell? ⟨bw,0,none⟩=some (.pointer (some ⟨p,0,none⟩))∧w'.cell? ⟨p,0,none⟩=some (.map (some m))) (first|go_keep|exact HK6.out) (fail)
            clear hlk hlk' hr6 c1 c2
            have hPS:=HRel.out.2.2.2.2.1
            have c6:w6.cell? ⟨bw,0,none⟩=some (.pointer (some ⟨p,0,none⟩)):=HK6.out.1
            have hcsl:s.cs.length<900000000:=by have:=hPS.cl;have:=hPS.lo;omega
            have HPS:=Lib.hid hPS
            clear hPS
            go_wp2_with fail
            refine(y8k p (.map (some m)) cv s.nx (some ⟨gg,off,none⟩) 3 3 ((s.rows k).take 3) s.cs w6 HLT6.out H6.out.1.sm.st H6.out.1.fresh hcsl (by omega) HCL6.out (fun x hx=>by have:=HPS.out.lit k x (Qf2 hx);omega) (by have:=HPS.out.lo;omega) (by omega)).mono ?_
            rintro e w7 ⟨rfl,cv7,s7,t7⟩
            have h7:=H6.out.1.added t7 s7
            have c7:w7.cell? ⟨bw,0,none⟩=some (.pointer (some ⟨p,0,none⟩)):=h7.1.sm.hbw.cell 0
            have c7':w7.cell? ⟨p,2,none⟩=some (I64 (s.nx+2)):=h7.1.sm.pblk.cell 2
            have H7:=Lib.hid h7
            clear s7 t7 h7
            by_cases hfull:65537<s.nx+2
            ·have hfl:decide (65537<s.nx+2)=true:=by simp;omega
             go_wp2_with fail
             refine bodyPost_ret (q0y rfl _ _ _) rfl ?_
             exact q9r HR.out HRel.out hkt (by rw[HLen2.out];omega) hfull HM.out (q3k (H6.out.2.trans H7.out.2))
            ·go_wp2_with fail
             refine(q7o m p m bw bt _ _ _ _ (s.nx+2) cv7 s.top (k:Int) s.nx w7 H7.out.1 (by omega) (by omega) (y8m HPS.out o k)).mono ?_
             rintro e w8 ⟨rfl,f8,g8,h8,b8,n8⟩
             have H8:=Lib.hid h8
             have HB8:=Lib.hid b8
             have HN8:=Lib.hid n8
             clear h8 b8 n8
             go_wp2_with fail
             refine(q7o m p m bw bt _ _ _ _ (s.nx+2) cv7 (max s.top ((k:Int)+1)) ((k:Int)+1) (s.nx+1) w8 H8.out (by omega) (by omega) (x1t HPS.out o k)).mono ?_
             rintro e w9 ⟨rfl,f9,g9,h9,b9,n9⟩
             have hend:=q9y HRel.out hkt (by rw[HLen2.out];omega) (by omega) h9 (n9.trans (HN8.out.trans HG61.out)) (q3k (H6.out.2.trans (H7.out.2.trans (HB8.out.trans b9))))
             have HEnd:=Lib.hid hend
             clear h9 b9 n9 hend
             go_wp2_with fail
             go_roundg (gk-1)
             case measure=>exact HEnd.out.1
             case rel=>exact⟨rfl,by omega,q1f k s,f9,g9,cv7,HEnd.out.2.1,HEnd.out.2.2⟩
          ·obtain rfl:len=2:=by omega
           by_cases hc3:cap=2
           ·obtain rfl:=hc3
            have hlk':(Instr.lookup 161 (.map (some m)) (.int .i64 (k:Int)) false).run Tryz.prog wr.drew=.ok (.slice (some ⟨gg,off,none⟩) 2 2) wr.drew:=by
             have h1:=(HRel.out.1.drewN 1).look (k:=(k:Int)) (by omega)
             rw[HGk.out]at h1
             exact h1
            obtain⟨w6,hr6,hm6,hg6,hz6⟩:=z0t (P:=Tryz.prog) (w:=wr.drew) 161 3 34 Tryz.underlying161 Tryz.underlying3 (HRel.out.1.drewN 1).map (k:Int) (.slice (some ⟨gg,off,none⟩) 0 0)
            have hK:=k6c HRel.out.1 hg6
            have h6:=(HRel.out.1.drewN 1).cut (k:=(k:Int)) (zs:=(s.rows k).drop 3) HGk.out (by rw[show(s.rows k).drop 3=(s.rows k).drop 2 by rw[Ql1 (by rw[HLen2.out];omega),Ql1 (by rw[HLen2.out];omega)],Qq6];exact(HOwn.out.drewN 1).cut_full) hm6 hg6
            rw[j7u o s.rows k _ (by omega)]at h6
            have hcl6:=u9y HRel.out.1 HOwn.out hg6 (show 2≤2 by omega) HGk.out
            have htk:(s.rows k).take 2=(s.rows k).take 3:=by rw[Qd6 (by rw[HLen2.out];omega),Qd6 (by rw[HLen2.out];omega)]
            rw[htk]at hcl6
            have hlt6:((s.rows k).take 3).length=2:=by rw[Qd0,HLen2.out];omega
            have hg61:=(show(if(-1:Int)=(k:Int)then(Value.slice (some ⟨gg,off,none⟩) 0 0)else g (-1))=g (-1)from if_neg (by omega)).trans HRel.out.2.1
            have HK6:=Lib.hid hK
            have H6:=Lib.hid h6
            have HCL6:=Lib.hid hcl6
            have HLT6:=Lib.hid hlt6
            have HG61:=Lib.hid hg61
            clear hK h6 hcl6 htk hlt6 hm6 hg6 hz6 hg61
            go_wp2_with fail
            go_region_held3 (fun w'=>w'.cell? ⟨bw,0,none⟩=some (.pointer (some ⟨p,0,none⟩))∧w'.cell? ⟨p,0,none⟩=some (.map (some m))) (first|go_keep|exact HK6.out) (fail)
            clear hlk hlk' hr6 c1 c2
            have hPS:=HRel.out.2.2.2.2.1
            have c6:w6.cell? ⟨bw,0,none⟩=some (.pointer (some ⟨p,0,none⟩)):=HK6.out.1
            have hcsl:s.cs.length<900000000:=by have:=hPS.cl;have:=hPS.lo;omega
            have HPS:=Lib.hid hPS
            clear hPS
            go_wp2_with fail
            refine(y8k p (.map (some m)) cv s.nx (some ⟨gg,off,none⟩) 2 2 ((s.rows k).take 3) s.cs w6 HLT6.out H6.out.1.sm.st H6.out.1.fresh hcsl (by omega) HCL6.out (fun x hx=>by have:=HPS.out.lit k x (Qf2 hx);omega) (by have:=HPS.out.lo;omega) (by omega)).mono ?_
            rintro e w7 ⟨rfl,cv7,s7,t7⟩
            have h7:=H6.out.1.added t7 s7
            have c7:w7.cell? ⟨bw,0,none⟩=some (.pointer (some ⟨p,0,none⟩)):=h7.1.sm.hbw.cell 0
            have c7':w7.cell? ⟨p,2,none⟩=some (I64 (s.nx+2)):=h7.1.sm.pblk.cell 2
            have H7:=Lib.hid h7
            clear s7 t7 h7
            by_cases hfull:65537<s.nx+2
            ·have hfl:decide (65537<s.nx+2)=true:=by simp;omega
             go_wp2_with fail
             refine bodyPost_ret (q0y rfl _ _ _) rfl ?_
             exact q9r HR.out HRel.out hkt (by rw[HLen2.out];omega) hfull HM.out (q3k (H6.out.2.trans H7.out.2))
            ·go_wp2_with fail
             refine(q7o m p m bw bt _ _ _ _ (s.nx+2) cv7 s.top (k:Int) s.nx w7 H7.out.1 (by omega) (by omega) (y8m HPS.out o k)).mono ?_
             rintro e w8 ⟨rfl,f8,g8,h8,b8,n8⟩
             have H8:=Lib.hid h8
             have HB8:=Lib.hid b8
             have HN8:=Lib.hid n8
             clear h8 b8 n8
             go_wp2_with fail
             refine(q7o m p m bw bt _ _ _ _ (s.nx+2) cv7 (max s.top ((k:Int)+1)) ((k:Int)+1) (s.nx+1) w8 H8.out (by omega) (by omega) (x1t HPS.out o k)).mono ?_
             rintro e w9 ⟨rfl,f9,g9,h9,b9,n9⟩
             have hend:=q9y HRel.out hkt (by rw[HLen2.out];omega) (by omega) h9 (n9.trans (HN8.out.trans HG61.out)) (q3k (H6.out.2.trans (H7.out.2.trans (HB8.out.trans b9))))
             have HEnd:=Lib.hid hend
             clear h9 b9 n9 hend
             go_wp2_with fail
             go_roundg (gk-1)
             case measure=>exact HEnd.out.1
             case rel=>exact⟨rfl,by omega,q1f k s,f9,g9,cv7,HEnd.out.2.1,HEnd.out.2.2⟩
           ·have hcc:2<cap:=by omega
            have hlk':(Instr.lookup 161 (.map (some m)) (.int .i64 (k:Int)) false).run Tryz.prog wr.drew=.ok (.slice (some ⟨gg,off,none⟩) 2 cap) wr.drew:=by
             have h1:=(HRel.out.1.drewN 1).look (k:=(k:Int)) (by omega)
             rw[HGk.out]at h1
             exact h1
            obtain⟨w6,hr6,hm6,hg6,hz6⟩:=z0t (P:=Tryz.prog) (w:=wr.drew) 161 3 34 Tryz.underlying161 Tryz.underlying3 (HRel.out.1.drewN 1).map (k:Int) (.slice (some ⟨gg,off+2,none⟩) 0 (cap-2))
            have hK:=k6c HRel.out.1 hg6
            have h6:=(HRel.out.1.drewN 1).cut (k:=(k:Int)) (zs:=(s.rows k).drop 3) HGk.out (by rw[show(s.rows k).drop 3=(s.rows k).drop 2 by rw[Ql1 (by rw[HLen2.out];omega),Ql1 (by rw[HLen2.out];omega)],Qq6];exact(HOwn.out.drewN 1).cut_off (by omega)) hm6 hg6
            rw[j7u o s.rows k _ (by omega)]at h6
            have hcl6:=u9y HRel.out.1 HOwn.out hg6 (show 2≤2 by omega) HGk.out
            have htk:(s.rows k).take 2=(s.rows k).take 3:=by rw[Qd6 (by rw[HLen2.out];omega),Qd6 (by rw[HLen2.out];omega)]
            rw[htk]at hcl6
            have hlt6:((s.rows k).take 3).length=2:=by rw[Qd0,HLen2.out];omega
            have hg61:=(show(if(-1:Int)=(k:Int)then(Value.slice (some ⟨gg,off+2,none⟩) 0 (cap-2))else g (-1))=g (-1)from if_neg (by omega)).trans HRel.out.2.1
            have HK6:=Lib.hid hK
            have H6:=Lib.hid h6
            have HCL6:=Lib.hid hcl6
            have HLT6:=Lib.hid hlt6
            have HG61:=Lib.hid hg61
            clear hK h6 hcl6 htk hlt6 hm6 hg6 hz6 hg61
            go_wp2_with fail
            go_region_held3 (fun w'=>w'.cell? ⟨bw,0,none⟩=some (.pointer (some ⟨p,0,none⟩))∧w'.cell? ⟨p,0,none⟩=some (.map (some m))) (first|go_keep|exact HK6.out) (fail)
            clear hlk hlk' hr6 c1 c2
            have hPS:=HRel.out.2.2.2.2.1
            have c6:w6.cell? ⟨bw,0,none⟩=some (.pointer (some ⟨p,0,none⟩)):=HK6.out.1
            have hcsl:s.cs.length<900000000:=by have:=hPS.cl;have:=hPS.lo;omega
            have HPS:=Lib.hid hPS
            clear hPS
            go_wp2_with fail
            refine(y8k p (.map (some m)) cv s.nx (some ⟨gg,off,none⟩) 2 2 ((s.rows k).take 3) s.cs w6 HLT6.out H6.out.1.sm.st H6.out.1.fresh hcsl (by omega) HCL6.out (fun x hx=>by have:=HPS.out.lit k x (Qf2 hx);omega) (by have:=HPS.out.lo;omega) (by omega)).mono ?_
            rintro e w7 ⟨rfl,cv7,s7,t7⟩
            have h7:=H6.out.1.added t7 s7
            have c7:w7.cell? ⟨bw,0,none⟩=some (.pointer (some ⟨p,0,none⟩)):=h7.1.sm.hbw.cell 0
            have c7':w7.cell? ⟨p,2,none⟩=some (I64 (s.nx+2)):=h7.1.sm.pblk.cell 2
            have H7:=Lib.hid h7
            clear s7 t7 h7
            by_cases hfull:65537<s.nx+2
            ·have hfl:decide (65537<s.nx+2)=true:=by simp;omega
             go_wp2_with fail
             refine bodyPost_ret (q0y rfl _ _ _) rfl ?_
             exact q9r HR.out HRel.out hkt (by rw[HLen2.out];omega) hfull HM.out (q3k (H6.out.2.trans H7.out.2))
            ·go_wp2_with fail
             refine(q7o m p m bw bt _ _ _ _ (s.nx+2) cv7 s.top (k:Int) s.nx w7 H7.out.1 (by omega) (by omega) (y8m HPS.out o k)).mono ?_
             rintro e w8 ⟨rfl,f8,g8,h8,b8,n8⟩
             have H8:=Lib.hid h8
             have HB8:=Lib.hid b8
             have HN8:=Lib.hid n8
             clear h8 b8 n8
             go_wp2_with fail
             refine(q7o m p m bw bt _ _ _ _ (s.nx+2) cv7 (max s.top ((k:Int)+1)) ((k:Int)+1) (s.nx+1) w8 H8.out (by omega) (by omega) (x1t HPS.out o k)).mono ?_
             rintro e w9 ⟨rfl,f9,g9,h9,b9,n9⟩
             have hend:=q9y HRel.out hkt (by rw[HLen2.out];omega) (by omega) h9 (n9.trans (HN8.out.trans HG61.out)) (q3k (H6.out.2.trans (H7.out.2.trans (HB8.out.trans b9))))
             have HEnd:=Lib.hid hend
             clear h9 b9 n9 hend
             go_wp2_with fail
             go_roundg (gk-1)
             case measure=>exact HEnd.out.1
             case rel=>exact⟨rfl,by omega,q1f k s,f9,g9,cv7,HEnd.out.2.1,HEnd.out.2.2⟩
         ·have hov:=u9u HRel.out
          have hok:(o.map I64).length=k:=by rw[Qa9];exact HRel.out.2.2.2.2.2.2.1
          have hkb:(k:Int)≤70000:=by omega
          have HOv:=Lib.hid hov
          have HOk:=Lib.hid hok
          clear hov hok
          by_cases h1:len=1
          ·have HL1:=Lib.hid h1
           have hlp:decide (0<(len:Int))=true:=by simp;omega
           obtain⟨gg,off,rfl⟩:=HOwn.out.addr (by omega)
           have hx:=(HOwn.out.at_ (i:=0) (by rw[Qa9,HLen2.out];omega)).1
           rw[Qg3,Qd9]at hx
           have hhd:(s.rows k).headD 0=(s.rows k)[0]'(by rw[HLen2.out];omega):=u4b _ _
           generalize (s.rows k)[0]'(by rw[HLen2.out];omega)=x0 at hx hhd
           have HHd:=Lib.hid hhd
           have hi0:(0:Int)<(len:Int):=by omega
           have hln':¬1<len:=hln
           clear hhd h1
           go_wp2_with (at_builtin;refine q3t _ rfl (.tmp 180) (.tmp 182) 34 rfl 3 i0 (.int .i64 0) 8 Tryz.underlying34 HI.out.1 HI.out.2.1 HI.out.2.2.1 HI.out.2.2.2 rfl _ (o.map I64) k HOk.out rfl (HOv.out.alloc _) ⟨wr.heap.size,0,none⟩ 1 (I64 x0) rfl ?c1a rfl ?c2a ?c3a ?_)
           case c1a=>simp
           case c2a=>unfold maxLen;omega
           case c3a=>omega
           intro g2 o2 cp2 w5 hown5 hg5 hat5
           have hend:=j1u HRel.out hkt (by rw[HLen2.out];omega) HHd.out hg5 hat5 hown5
           have HEnd:=Lib.hid hend
           clear hend hown5 hg5 hat5
           go_wp2_with fail
           go_roundg (gk-1)
           case measure=>have:=HEnd.out.1;omega
           case rel=>exact⟨k+1,by go_num,s,f,_,cv,o++[x0],HEnd.out.2⟩
          ·have h0:len=0:=by omega
           have HL0:=Lib.hid h0
           have hlp:decide (0<(len:Int))=false:=by simp;omega
           have hle0:(len:Int)≤0:=by omega
           have hhd:(s.rows k).headD 0=0:=k1i _ (by rw[HLen2.out];exact h0)
           have HHd:=Lib.hid hhd
           clear hhd h1 h0
           go_wp2_with (at_builtin;refine q3t _ rfl (.tmp 180) (.tmp 182) 34 rfl 3 i0 (.int .i64 0) 8 Tryz.underlying34 HI.out.1 HI.out.2.1 HI.out.2.2.1 HI.out.2.2.2 rfl _ (o.map I64) k HOk.out rfl (HOv.out.alloc _) ⟨wr.heap.size,0,none⟩ 1 (I64 0) rfl ?c1b rfl ?c2b ?c3b ?_)
           case c1b=>simp
           case c2b=>unfold maxLen;omega
           case c3b=>omega
           intro g2 o2 cp2 w5 hown5 hg5 hat5
           have hend:=j1u HRel.out hkt (by rw[HLen2.out];omega) HHd.out hg5 hat5 hown5
           have HEnd:=Lib.hid hend
           clear hend hown5 hg5 hat5
           go_wp2_with fail
           go_roundg (gk-1)
           case measure=>have:=HEnd.out.1;omega
           case rel=>exact⟨k+1,by go_num,s,f,_,cv,o++[0],HEnd.out.2⟩
       ·have c1:wr.cell? ⟨bw,0,none⟩=some (.pointer (some ⟨p,0,none⟩)):=HRel.out.1.sm.hbw.cell 0
        have c2:wr.cell? ⟨p,1,none⟩=some cv:=HRel.out.1.sm.pblk.cell 1
        have c3:wr.cell? ⟨p,2,none⟩=some (I64 s.nx):=HRel.out.1.sm.pblk.cell 2
        go_wp2_with fail
        go_quiet (fail)
        go_wp2_with fail
        refine bodyPost_ret (q0y rfl _ _ _) rfl ?_
        exact k5s HR.out HRel.out (by omega) _ HM.out
end Go.Proofs.YteikjpbbhopkaaaGreatDoor
namespace Go.Proofs.YteikjpbbhopkaaaGreatDoor
open Go.RowKit Go.Shelf
theorem u4w (A L:Option Addr) (cA cL:Nat) (coef l:List Int) (next:Int) (w:World) (ha:Rd I64 (· <w.heap.size) w A coef) (hl:Rd I64 (· <w.heap.size) w L l) (hT:TabAt w)
 (hla:coef.length≤1000000000) (hll:l.length≤1000000000):
 Calls Tryz.prog 110 #[.slice A coef.length cA,.slice L l.length cL,I64 next] w (z3o w (z1o coef l next)):=by
 by_cases hg:next<1∨65537<next∨coef.length≠l.length
 ·exact u3e A L cA cL coef l next w hg
 ·exact u8c A L cA cL coef l next w ha hl hT hla hll (by omega) (by omega) (by omega)
end Go.Proofs.YteikjpbbhopkaaaGreatDoor
