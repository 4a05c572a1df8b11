/- Lemmas and contracts for the row. -/
import Derived.Test.YteikjpbbhopkaaaGreatDoorProg
import Derived.Lib.Hide
import Derived.Test.YteikjpbbhopkaaaGreatDoorPkRowElimGatesY
import Derived.Test.YteikjpbbhopkaaaGreatDoorPkRowElimGatesAD
set_option linter.unusedVariables false
set_option linter.unusedSimpArgs false
set_option linter.unnecessarySimpa false
namespace Go.Proofs.YteikjpbbhopkaaaGreatDoor.En
open Go Go.RowKit
theorem q6a:(Tryz.prog.info? 3).map (fun i=>(i.zero,i.size,i.bytes))=some (some (.int .i64 0),1,8):=by kernel_rfl
theorem y1y:(Tryz.prog.info? 4).map (fun i=>(i.zero,i.size,i.bytes))=some (some (.bool false),1,1):=by kernel_rfl
theorem y4a {ty sz by_:Nat} {z:Value} (h:(Tryz.prog.info? ty).map (fun i=>(i.zero,i.size,i.bytes))=some (some z,sz,by_)):∃i,Tryz.prog.info? ty=some i∧i.zero=some z∧i.size=sz∧i.bytes=by_:=by
 cases h':Tryz.prog.info? ty with
 |none=>rw[h']at h;cases h
 |some i=>rw[h']at h;injection h with h;injection h with h1 h2;injection h2 with h2 h3;exact⟨i,rfl,h1,h2,h3⟩
def z4p (e:Nat) (w:World) (us:List Value) (en:Ending) (w':World):Prop:=
 ∃A cap,en=.returned (.slice A us.length cap)∧Own w' e (.slice A us.length cap) us∧Below w.heap.size w w'∧∀g,(Value.slice A us.length cap).ownBlock=some g→w.heap.size≤g
set_option maxHeartbeats 400000 in
theorem k3a (c:Nat) (w:World):Calls Tryz.prog 48 #[.slice none 0 c] w fun e w'=>z4p 3 w [] e w':=by
 have hnil:=Lib.run_eql_slice_nil (P:=Tryz.prog)
 go_enter Tryz.func48,Tryz.ntmps48
 go_wp2
 go_ret
 exact⟨none,0,rfl,Own.nil _ _,Below.refl _ _,fun g h=>by simp[Value.ownBlock]at h⟩
set_option maxHeartbeats 400000 in
theorem x2t (ad:Addr) (c:Nat) (us:List Value) (n:Nat) (hn:us.length=n) (w:World) (h:∀j u,us[j]? =some u→w.cell? (ad.add j)=some u) (h1:∀u∈us,u.oneCell'=true) (hl:n≤1000000000000):
 Calls Tryz.prog 48 #[.slice (some ad) n c] w fun e w'=>z4p 3 w us e w':=by
 obtain⟨i0,hi,hz0,hz1,hz2⟩:=y4a q6a
 have hnil:=Lib.run_eql_slice_nil (P:=Tryz.prog)
 have HI:=Lib.hid (And.intro hi (And.intro hz0 (And.intro hz1 hz2)))
 have hcells:x5d (w.alloc (.cells #[] 3)) (some ad) us:=.inr ⟨ad,rfl,fun j u hu=>by
  have h2:=h j u hu
  rw[World.cell?_alloc_lt w _ _ (World.block_lt_of_cell? w _ h2)]
  exact h2⟩
 have HC:=Lib.hid hcells
 have HN:=Lib.hid hn
 have H1:=Lib.hid h1
 clear hi hz0 hz1 hz2 h hcells hn h1
 go_enter Tryz.func48,Tryz.ntmps48
 go_wp2_with (at_builtin;refine z0m _ rfl (.tmp 5) (.tmp 6) 34 rfl 3 i0 (.int .i64 0) 8 Tryz.underlying34 HI.out.1 HI.out.2.1 HI.out.2.2.1 HI.out.2.2.2 rfl _ [] 0 rfl rfl (Own.empty w _) (some ad) c us n HN.out rfl HC.out H1.out (by unfold maxLen;omega) (by omega) ?_)
 intro A cap w1 h1 h2 h3
 have H1:=Lib.hid h1
 have H2:=Lib.hid h2
 have H3:=Lib.hid h3
 clear h1 h2 h3
 go_wp2
 go_ret
 have HN':=HN.out
 subst HN'
 refine⟨A,cap,rfl,H1.out,?_,?_⟩
 ·exact(((Kp.refl (fun _=>False) w).alloc _).grown H2.out (fun g e hg=>by simp[Value.ownBlock]at e;omega)).none_below
 ·intro g hg
  rcases H3.out g hg with e|e
  ·simp[Value.ownBlock]at e;omega
  ·omega
set_option maxHeartbeats 400000 in
theorem x4v (c:Nat) (w:World):Calls Tryz.prog 30 #[.slice none 0 c] w fun e w'=>z4p 4 w [] e w':=by
 have hnil:=Lib.run_eql_slice_nil (P:=Tryz.prog)
 go_enter Tryz.func30,Tryz.ntmps30
 go_wp2
 go_ret
 exact⟨none,0,rfl,Own.nil _ _,Below.refl _ _,fun g h=>by simp[Value.ownBlock]at h⟩
set_option maxHeartbeats 400000 in
theorem y5a (ad:Addr) (c:Nat) (us:List Value) (n:Nat) (hn:us.length=n) (w:World) (h:∀j u,us[j]? =some u→w.cell? (ad.add j)=some u) (h1:∀u∈us,u.oneCell'=true) (hl:n≤1000000000000):
 Calls Tryz.prog 30 #[.slice (some ad) n c] w fun e w'=>z4p 4 w us e w':=by
 obtain⟨i0,hi,hz0,hz1,hz2⟩:=y4a y1y
 have hnil:=Lib.run_eql_slice_nil (P:=Tryz.prog)
 have HI:=Lib.hid (And.intro hi (And.intro hz0 (And.intro hz1 hz2)))
 have hcells:x5d (w.alloc (.cells #[] 4)) (some ad) us:=.inr ⟨ad,rfl,fun j u hu=>by
  have h2:=h j u hu
  rw[World.cell?_alloc_lt w _ _ (World.block_lt_of_cell? w _ h2)]
  exact h2⟩
 have HC:=Lib.hid hcells
 have HN:=Lib.hid hn
 have H1:=Lib.hid h1
 clear hi hz0 hz1 hz2 h hcells hn h1
 go_enter Tryz.func30,Tryz.ntmps30
 go_wp2_with (at_builtin;refine z0m _ rfl (.tmp 5) (.tmp 6) 40 rfl 4 i0 (.bool false) 1 Tryz.underlying40 HI.out.1 HI.out.2.1 HI.out.2.2.1 HI.out.2.2.2 rfl _ [] 0 rfl rfl (Own.empty w _) (some ad) c us n HN.out rfl HC.out H1.out (by unfold maxLen;omega) (by omega) ?_)
 intro A cap w1 h1 h2 h3
 have H1:=Lib.hid h1
 have H2:=Lib.hid h2
 have H3:=Lib.hid h3
 clear h1 h2 h3
 go_wp2
 go_ret
 have HN':=HN.out
 subst HN'
 refine⟨A,cap,rfl,H1.out,?_,?_⟩
 ·exact(((Kp.refl (fun _=>False) w).alloc _).grown H2.out (fun g e hg=>by simp[Value.ownBlock]at e;omega)).none_below
 ·intro g hg
  rcases H3.out g hg with e|e
  ·simp[Value.ownBlock]at e;omega
  ·omega
theorem k3e {W:World} {G:Nat→Prop} {l:LD} {v:Value} (hf:q4f l=true) (h:Rep W G (.ls l) v):∃A c,v=.slice A l.len c∧(A=none→l.len=0)∧∀ad,A=some ad→∀j u,(z3d l)[j]? =some u→W.cell? (ad.add j)=some u:=by
 obtain⟨hn,hst⟩:=q5e hf
 rcases h.cases_ls with⟨h0,A,c,rfl⟩|⟨b,off,c,u,rfl,h1,h2,h3,h4,h5⟩
 ·refine⟨A,c,by rw[h0],fun _=>h0,fun ad _ j u hj=>?_⟩
  have:=(List.getElem?_eq_some_iff.1 hj).1
  omega
 ·refine⟨some ⟨b,off,none⟩,c,rfl,(fun h=>by cases h),fun ad had j y hj=>?_⟩
  injection had with had
  subst had
  obtain⟨hj1,hj2⟩:=List.getElem?_eq_some_iff.1 hj
  rw[hn]at hj1
  have hc:=h4 j 0 hj1 (by omega)
  have he:(List.range l.len).map (fun i=>u i 0)=z3d l:=y4u (W:=W) (G:=G) hf (by simp) (fun i hi=>by
   have:=h5 i 0 hi (by omega)
   simpa[List.getD,hi]using this)
  rw[q5c,←hj2]
  rw[hst]at hc
  simp only[Qf6,Qd9]at hc
  rw[hc]
  simp[←he]
theorem y9e {l:LD} (hf:q4f l=true):∀u∈z3d l,u.oneCell'=true:=by
 intro u hu
 cases l<;>simp[q4f]at hf<;>(simp only[z3d,Qo0]at hu;obtain⟨x,_,rfl⟩:=hu;rfl)
def z0k:CtF:=fun args os=>match args,os with
 |[.im (.ls (.ints xs))],[]=>some (xs.length≤1000000000000,.row 0,[some (.row 3 (.ints xs))])
 |_,_=>none
theorem q2t:q0c Tryz.prog 48 z0k:=by
 refine z1v (e:=3) (q0r Tryz.func48 (by kernel_rfl) rfl) fun args os p r outs h=>?_
 unfold z0k at h
 split at h
 ·rename_i xs
  injection h with h
  injection h with h1 h
  injection h with h2 h3
  subst h1 h2 h3
  refine⟨.ints xs,rfl,rfl,rfl,rfl,fun hp=>⟨by show xs.length≤maxLen;unfold maxLen;omega,fun W G vs hG _ hd=>?_⟩⟩
  simp only[q0e]at hd
  obtain⟨v,vs',rfl,hd0,hd1⟩:=hd
  subst hd1
  have hr:Rep W G (.ls (.ints xs)) v:=hd0
  obtain⟨A,c,rfl,hA,hs⟩:=k3e (l:=.ints xs) rfl hr
  have hn:=(q5e (l:=.ints xs) rfl).1
  have fin:∀us,us=z3d (.ints xs)→∀e' W',z4p 3 W us e' W'→∃v',e'=.returned v'∧Own W' 3 v' (z3d (.ints xs))∧Below W.heap.size W W'∧∀b,v'.ownBlock=some b→W.heap.size≤b:=by
   rintro us rfl e' W' ⟨A',cap,rfl,h1,h2,h3⟩
   exact⟨_,rfl,h1,h2,h3⟩
  cases A with
  |none=>
   have h0:xs=[]:=Qc8 (hA rfl)
   subst h0
   exact(k3a c W).mono (fin [] rfl)
  |some ad=>exact(x2t ad c _ xs.length hn W (hs ad rfl) (y9e rfl) hp).mono (fin _ rfl)
 ·cases h
def y4d:CtF:=fun args os=>match args,os with
 |[.im (.ls (.bools xs))],[]=>some (xs.length≤1000000000000,.row 0,[some (.row 4 (.bools xs))])
 |_,_=>none
theorem j4h:q0c Tryz.prog 30 y4d:=by
 refine z1v (e:=4) (q0r Tryz.func30 (by kernel_rfl) rfl) fun args os p r outs h=>?_
 unfold y4d at h
 split at h
 ·rename_i xs
  injection h with h
  injection h with h1 h
  injection h with h2 h3
  subst h1 h2 h3
  refine⟨.bools xs,rfl,rfl,rfl,rfl,fun hp=>⟨by show xs.length≤maxLen;unfold maxLen;omega,fun W G vs hG _ hd=>?_⟩⟩
  simp only[q0e]at hd
  obtain⟨v,vs',rfl,hd0,hd1⟩:=hd
  subst hd1
  have hr:Rep W G (.ls (.bools xs)) v:=hd0
  obtain⟨A,c,rfl,hA,hs⟩:=k3e (l:=.bools xs) rfl hr
  have hn:=(q5e (l:=.bools xs) rfl).1
  have fin:∀us,us=z3d (.bools xs)→∀e' W',z4p 4 W us e' W'→∃v',e'=.returned v'∧Own W' 4 v' (z3d (.bools xs))∧Below W.heap.size W W'∧∀b,v'.ownBlock=some b→W.heap.size≤b:=by
   rintro us rfl e' W' ⟨A',cap,rfl,h1,h2,h3⟩
   exact⟨_,rfl,h1,h2,h3⟩
  cases A with
  |none=>
   have h0:xs=[]:=Qc8 (hA rfl)
   subst h0
   exact(x4v c W).mono (fin [] rfl)
  |some ad=>exact(y5a ad c _ xs.length hn W (hs ad rfl) (y9e rfl) hp).mono (fin _ rfl)
 ·cases h
end Go.Proofs.YteikjpbbhopkaaaGreatDoor.En
namespace Go.Proofs.YteikjpbbhopkaaaGreatDoor.En
open Go Go.RowKit Fl
attribute [local go_sem] Oper.semAt_some
def NV (W:World) (G:Nat→Prop) (t:Tree) (u:Value):Prop:=∃s,u=.agg #[I64 t.kind,I64 t.v,I64 t.k,s]∧Rep W G (.ls (.trees t.l)) s
theorem y5r {r:Option Nat} {n m:Nat} {P:Program} {l f:Nat} {tmps:Array Value} {assign body:Code} {w:World} {R:Ending→World→Prop} (h:RoundIn (FR none) m P l f tmps assign body w R):RoundIn (FR r) n P l f tmps assign body w R:=
 ⟨trivial,fun c cs _=>h.2 c cs (fun d hd=>by cases hd)⟩
theorem u0l {M:Nat→Prop} {W:World} {b:Nat} (o:Obj) (h:M b):Kp M W (W.putObj b o):=⟨rfl,rfl,rfl,by simp,fun k _ hn=>World.putObj_heap_other (fun e=>hn (e▸h))⟩
theorem x3r (c0 c1 c2 c3:Value) (W:World):Calls Tryz.prog 65 #[.agg #[c0,c1,c2,c3]] W fun e w'=>e=.returned (.func (.func 100) #[] #[.pointer (some ⟨W.heap.size,0,none⟩)])∧
 w'=W.alloc (.cells #[c0,c1,c2,c3] 24):=by
 go_enter Tryz.func65,Tryz.ntmps65
 go_wp2
 go_ret
 exact⟨rfl,rfl⟩
theorem z9e {P:Program} {fn:Func} {tmps:Array Value} {R:Ending→World→Prop} {n:Nat}:∀(Ds:List Nat) (W:World),Ds.Nodup→(∀D∈Ds,W.heap[D]? =some dfr)→(∀W',Kp (fun b=>b∈Ds) W W'→LeavesIn (FR none) n P fn tmps R [] .returning W')→LeavesInM (FR none) n P fn tmps R (Ds.map mkD) .returning W
 |[],W,_,_,h=>h W (Kp.refl _ _)
 |D::Ds,W,hn,hd,h=>by
  refine⟨by simp,.inl ⟨D,_,rfl,run_takeDeferred (hd D (by simp)),?_⟩⟩
  have hn':=List.nodup_cons.1 hn
  refine z9e Ds _ hn'.2 (fun D' h'=>?_) (fun W' hk=>h W' ?_)
  ·exact(World.putObj_heap_other (fun e:D'=D=>hn'.1 (e▸h'))).trans (hd D' (by simp[h']))
  ·exact(u0l (M:=fun b=>b∈D::Ds) _ (by simp)).trans hk (fun b _ hb=>by simp[hb])
set_option maxRecDepth 100000 in
set_option maxHeartbeats 2000000 in
theorem k3i:∀(n:Nat) (t:Tree),q2a t<n→∀(W0:World) (G0:Nat→Prop),(∀b,G0 b→b<W0.heap.size)→∀s,Rep W0 G0 (.ls (.trees t.l)) s→
 ∃L:List (Array Value),L.length=q2a t∧(∀i,i<q2a t→∃u,L.getD i #[]= #[u]∧NV W0 G0 ((q0v t).getD i q0a) u)∧
  ∀(W:World) (G:Nat→Prop) (p o:Nat),KRG G0 W0 W→(∀b,G0 b→G b)→(∀b,G b→b<W.heap.size)→G p→
   W.cell? ⟨p,o,none⟩=some (I64 t.kind)→W.cell? ⟨p,o+1,none⟩=some (I64 t.v)→W.cell? ⟨p,o+2,none⟩=some (I64 t.k)→W.cell? ⟨p,o+3,none⟩=some s→
   u1p Tryz.prog 100 #[.pointer (some ⟨p,o,none⟩)] (KRG G) (q2a t) (fun i=>L.getD i #[]) W
 |0,t,h=>by omega
 |n+1,t,ht=>by
  intro W0 G0 hG0 s hs
  have key:∃(A:Option Addr) (cp:Nat) (us:Nat→Value),s=.slice A t.l.length cp∧(∀k,k<t.l.length→∃b off,A=some ⟨b,off,none⟩∧G0 b∧W0.cell? ⟨b,off+k*4,none⟩=some (I64 (t.l.getD k q0a).kind)∧
   W0.cell? ⟨b,off+k*4+1,none⟩=some (I64 (t.l.getD k q0a).v)∧W0.cell? ⟨b,off+k*4+2,none⟩=some (I64 (t.l.getD k q0a).k)∧W0.cell? ⟨b,off+k*4+3,none⟩=some (us k))∧
   ∀k,k<t.l.length→Rep W0 G0 (.ls (.trees (t.l.getD k q0a).l)) (us k):=by
   rcases hs.cases_ls with⟨h0,A,cp,rfl⟩|⟨b,off,cp,u,rfl,_,_,hb,hcell,hrep⟩
   ·have h0':t.l.length=0:=h0
    exact⟨A,cp,fun _=>undef,by rw[h0'],fun k hk=>by omega,fun k hk=>by omega⟩
   ·refine⟨_,cp,fun k=>u k 3,rfl,fun k hk=>⟨b,off,rfl,hb,?_⟩,fun k hk=>hrep k 3 hk (show 3<4 by decide)⟩
    have hh:∀j,j<4→W0.cell? ⟨b,off+k*4+j,none⟩=some (u k j):=fun j hj=>hcell k j hk hj
    have e0:u k 0=I64 (t.l.getD k q0a).kind:=q0b (g:=g0 W0 G0) (by simp only[Den];exact hrep k 0 hk (show 0<4 by decide))
    have e1:u k 1=I64 (t.l.getD k q0a).v:=q0b (g:=g0 W0 G0) (by simp only[Den];exact hrep k 1 hk (show 1<4 by decide))
    have e2:u k 2=I64 (t.l.getD k q0a).k:=q0b (g:=g0 W0 G0) (by simp only[Den];exact hrep k 2 hk (show 2<4 by decide))
    have:=hh 0 (by decide);have:=hh 1 (by decide);have:=hh 2 (by decide);have:=hh 3 (by decide)
    rw[←e0,←e1,←e2]
    exact⟨hh 0 (by decide),hh 1 (by decide),hh 2 (by decide),hh 3 (by decide)⟩
  obtain⟨A,cp,us,rfl,hA,hus⟩:=key
  have hsub:∀k,k<t.l.length→q2a (t.l.getD k q0a)<n:=fun k hk=>by have:=size_at hk;omega
  obtain⟨LL,hLL⟩:=Classical.axiomOfChoice (fun k=>show∃Lk:List (Array Value),k<t.l.length→Lk.length=q2a (t.l.getD k q0a)∧(∀i,i<q2a (t.l.getD k q0a)→∃u,Lk.getD i #[]= #[u]∧NV W0 G0 ((q0v (t.l.getD k q0a)).getD i q0a) u)∧
   ∀(W:World) (G:Nat→Prop) (p o:Nat),KRG G0 W0 W→(∀b,G0 b→G b)→(∀b,G b→b<W.heap.size)→G p→
    W.cell? ⟨p,o,none⟩=some (I64 (t.l.getD k q0a).kind)→W.cell? ⟨p,o+1,none⟩=some (I64 (t.l.getD k q0a).v)→W.cell? ⟨p,o+2,none⟩=some (I64 (t.l.getD k q0a).k)→W.cell? ⟨p,o+3,none⟩=some (us k)→
    u1p Tryz.prog 100 #[.pointer (some ⟨p,o,none⟩)] (KRG G) (q2a (t.l.getD k q0a)) (fun i=>Lk.getD i #[]) W from
   if h:k<t.l.length then(k3i n _ (hsub k h) W0 G0 hG0 _ (hus k h)).imp fun _ h _=>h else⟨[],fun h'=>absurd h' h⟩)
  have hlen:∀i,i<t.l.length→(LL i).length=q2a (t.l.getD i q0a):=fun i hi=>(hLL i hi).1
  have hcl:=y6f t.l.length (Qb8 _) hlen
  rw[Qd3]at hcl
  refine⟨#[.agg #[I64 t.kind,I64 t.v,I64 t.k,.slice A t.l.length cp]]::cat LL t.l.length,by rw[Qa8,hcl,j9n];omega,fun i hi=>?_,?_⟩
  ·cases i with
   |zero=>exact⟨_,rfl,_,by rw[z3q];rfl,by rw[z3q];exact hs⟩
   |succ i=>
    rw[j9n]at hi
    obtain⟨k,j,hk,hj,rfl⟩:=y0e (l:=t.l) (i:=i) t.l.length (Qb8 _) (by rw[Qd3];omega)
    obtain⟨u,h1,h2⟩:=(hLL k hk).2.1 j hj
    refine⟨u,?_,?_⟩
    ·rw[Qk8,k9x hlen hk hj];exact h1
    ·rw[z3q,Qk8,k7c hk hj];exact h2
  ·have HX:=Lib.hid (fun k (hk:k<t.l.length)=>(hLL k hk).2.2)
   have HAT:=Lib.hid (fun k (hk:k<t.l.length) j (hj:j<q2a (t.l.getD k q0a))=>(k9x (f:=LL) (d:= #[]) hlen hk hj))
   have HNV:=Lib.hid (fun k (hk:k<t.l.length) j (hj:j<q2a (t.l.getD k q0a))=>(by
    obtain⟨u,h1,s,rfl,h3⟩:=(hLL k hk).2.1 j hj
    obtain⟨A3,c3,rfl,_⟩:=h3.slice
    exact⟨_,_,_,_,_,_,h1⟩:∃q0 q1 q2 A3 n3 c3,(LL k).getD j #[]= #[.agg #[I64 q0,I64 q1,I64 q2,.slice A3 n3 c3]]))
   have HMX:=Lib.hid (show t.l.length≤maxLen from hs.lenMax)
   have HUS:=Lib.hid (fun k (hk:k<t.l.length)=>(hus k hk).slice)
   have HSZ:=Lib.hid (j9n t)
   have HST:=Lib.hid (fun k (hk:k<t.l.length)=>q4s hk)
   have HLT:=Lib.hid (fun k (hk:k<t.l.length) j (hj:j<q2a (t.l.getD k q0a))=>j9g hk hj)
   have HTL:=Lib.hid (show q0p (t.l.take t.l.length)=q0p t.l by rw[Qd3])
   clear hlen hcl hLL hus hsub ht hs
   generalize hcat:cat LL t.l.length=CL at HAT⊢
   clear hcat
   intro W G p o hk0 hGG hG hp h0 h1 h2 h3
   intro l J Jx Z W1 hKR hJs hJxs hY hj0
   have HC0:=Lib.hid (fun(W':World) (h:KRG G W W')=>(World.cell?_of_block (a:=⟨p,o,none⟩) (h p hp)).trans h0)
   have HC1:=Lib.hid (fun(W':World) (h:KRG G W W')=>(World.cell?_of_block (a:=⟨p,o+1,none⟩) (h p hp)).trans h1)
   have HC2:=Lib.hid (fun(W':World) (h:KRG G W W')=>(World.cell?_of_block (a:=⟨p,o+2,none⟩) (h p hp)).trans h2)
   have HC3:=Lib.hid (fun(W':World) (h:KRG G W W')=>(World.cell?_of_block (a:=⟨p,o+3,none⟩) (h p hp)).trans h3)
   have HJ:=Lib.hid hJs
   have HJX:=Lib.hid hJxs
   have HY:=Lib.hid hY
   have HG:=Lib.hid hG
   have HK:=Lib.hid hKR
   have H0:=Lib.hid hj0
   have HA:=Lib.hid hA
   have HK0:=Lib.hid hk0
   have HGG:=Lib.hid hGG
   clear h0 h1 h2 h3 hJs hJxs hY hG hKR hj0 hA hk0 hGG
   refine q2p.1 (callsIn_of_wp_marks (F:=FR none) (n:=3) Tryz.func100 rfl trivial ?_ rfl)
   simp only[Tryz.ntmps100,Qi9,Qa8,Qb5,Nat.reduceAdd,Nat.reduceSub,Qo8,Qo7,Qq0,Qp0,Qg8,Qc9]
   have hro:(FR none).round=none:=rfl
   have hlt1:p<W1.heap.size:=z8i HG.out HK.out p hp
   have hc0:=HC0.out W1 HK.out
   have hc1:=HC1.out W1 HK.out
   have hc2:=HC2.out W1 HK.out
   have hc3:=HC3.out W1 HK.out
   obtain⟨s1,hs1⟩:∃s1,s1=W1.heap.size:=⟨_,rfl⟩
   obtain⟨Wa,hWa⟩:∃Wa,W1.alloc (.cells #[.func (.yield l) #[] #[]] 69)=Wa:=⟨_,rfl⟩
   have hkpa:Kp (fun _=>False) W1 Wa:=by rw[←hWa];exact(Kp.refl _ _).alloc _
   have hsza:Wa.heap.size=s1+1:=by rw[←hWa,hs1];simp
   have hya:Wa.heap[s1]? =some (.cells #[.func (.yield l) #[] #[]] 69 (0,0)):=by rw[←hWa,hs1];exact World.alloc_heap_new W1 _
   have hyy:=HY.out 0 (grew Z W1 Wa) Wa (by rw[HSZ.out];omega) (HJ.out _ _ _ _ H0.out (hkpa.mono fun _ _ h=>h.elim))
   simp only[List.getD_cons_zero]at hyy
   obtain⟨fn,tmps,assign,body,hy,hR⟩:=hyy
   rw[←hWa]at hy hR
   have HKPA:=Lib.hid hkpa
   have HSZA:=Lib.hid hsza
   have HYA:=Lib.hid hya
   have HWA:=Lib.hid hWa
   have HS1:=Lib.hid hs1
   clear hkpa hsza hya hWa hs1
   gi_wp2_with fail
   refine hR.mono ?_
   intro e w2 h2
   rw[HWA.out]at h2
   obtain⟨hj2,hk2,hz2,hsz2⟩:=h2
   have hs1:=HS1.out
   have HZ2:=Lib.hid (show grew Z W1 Wa s1 from .inr ⟨by omega,by have:=HSZA.out;omega⟩)
   have HYB:=Lib.hid ((hz2 s1 HZ2.out).trans HYA.out)
   have HKB:=Lib.hid (show KRG G W w2 from fun b hb=>(hk2 b hb).trans ((HKPA.out.block b (z8i HG.out HK.out b hb) id).trans (HK.out b hb)))
   have HSB:=Lib.hid (show s1<w2.heap.size by have:=HSZA.out;omega)
   clear hk2 hz2 hsz2 hR hy hs1
   rcases hj2 with⟨rfl,hj2⟩|⟨rfl,hj2⟩
   case inr=>
    have HJ2:=Lib.hid hj2
    clear hj2
    gi_wp2_with fail
    refine⟨_,results_none rfl _ _ _,⟨_,rfl⟩,.inr ⟨_,_,HJ2.out⟩⟩
   have HJ2:=Lib.hid hj2
   clear hj2
   have hd3:=HC3.out w2 HKB.out
   gi_wp2_with fail
   clear hd3
   refine wpIn_loop (fun a w=>∃(k:Nat) (Z:Nat→Prop) (Ds:List Nat) (x3 x4 x5 x6 x7 x8 x9 x14 x15 x16 x17 x18 x19 x20 x21 x22 x23 x24:Value),a={tmps:= #[.func (.yield l) #[] #[],.pointer (some ⟨p,o,none⟩),.pointer (some ⟨W1.heap.size,0,none⟩),x3,x4,x5,x6,x7,x8,x9,.pointer (some ⟨p,o+3,none⟩),.slice A t.l.length cp,I64 t.l.length,.int .i64 k,x14,x15,x16,x17,x18,x19,x20,x21,x22,x23,x24],defers:=Ds.map mkD}∧k≤t.l.length∧KRG G W w∧J (1+q0p (t.l.take k)) Z w∧Z s1∧
    w.heap[s1]? =some (.cells #[.func (.yield l) #[] #[]] 69 (0,0))∧s1<w.heap.size∧Ds.Nodup∧∀D∈Ds,Z D∧w.heap[D]? =some dfr) (fun a _=>t.l.length-(intOf (a.tmps.getD 13 undef)).toNat) ?_ ?_
   ·refine⟨0,_,[],_,_,_,_,_,_,_,_,_,_,_,_,_,_,_,_,_,_,rfl,Qc1 _,HKB.out,by simpa[q0p]using HJ2.out,HZ2.out,HYB.out,HSB.out,List.nodup_nil,by simp⟩
   ·rintro a w ⟨k,Zk,Ds,x3,x4,x5,x6,x7,x8,x9,x14,x15,x16,x17,x18,x19,x20,x21,x22,x23,x24,rfl,hk,hkr,hj,hzs,hys,hss,hnd,hds⟩
    have HKR:=Lib.hid hkr
    have HJK:=Lib.hid hj
    have HYS:=Lib.hid hys
    have HSS:=Lib.hid hss
    have HND:=Lib.hid hnd
    have HDS:=Lib.hid hds
    have HZS:=Lib.hid hzs
    clear hkr hj hys hss hnd hds hzs
    by_cases hlt:k<t.l.length
    ·obtain⟨b,off,rfl,gb,d0,d1,d2,d3⟩:=HA.out k hlt
     have hbw:w.heap[b]? =W0.heap[b]? :=(HKR.out b (HGG.out b gb)).trans (HK0.out b gb)
     have e0:=(World.cell?_of_block (a:=⟨b,off+k*4,none⟩) hbw).trans d0
     have e1:=(World.cell?_of_block (a:=⟨b,off+k*4+1,none⟩) hbw).trans d1
     have e2:=(World.cell?_of_block (a:=⟨b,off+k*4+2,none⟩) hbw).trans d2
     have e3:=(World.cell?_of_block (a:=⟨b,off+k*4+3,none⟩) hbw).trans d3
     clear d0 d1 d2 d3
     have HXK:=Lib.hid (HX.out k hlt)
     have HATK:=Lib.hid (HAT.out k hlt)
     have HSTK:=Lib.hid (HST.out k hlt)
     have HLTK:=Lib.hid (HLT.out k hlt)
     have HNVK:=Lib.hid (HNV.out k hlt)
     obtain⟨A2,c2,hu,_⟩:=HUS.out k hlt
     generalize (LD.trees (t.l.getD k q0a).l).len=n2 at hu
     rw[hu]at e3 HXK
     clear hu
     generalize t.l.getD k q0a=ck at e0 e1 e2 HXK HATK HSTK HLTK HNVK
     gi_wp2_with fail
     refine⟨trivial,(q2p.2 (x3r _ _ _ _ _)).mono ?_⟩
     rintro e w4 ⟨rfl,rfl⟩
     obtain⟨Wf,hWf⟩:∃Wf,(w.alloc (.cells #[.int .i64 ck.kind,.int .i64 ck.v,.int .i64 ck.k,.slice A2 n2 c2] 24)).alloc (.cells #[.int .i64 ck.kind,.int .i64 ck.v,.int .i64 ck.k,.slice A2 n2 c2] 24)=Wf:=⟨_,rfl⟩
     simp only[hWf,World.size_alloc]
     have hfs:Wf.heap.size=w.heap.size+2:=by rw[←hWf];simp
     have hfk:Kp (fun _=>False) w Wf:=by rw[←hWf];exact((Kp.refl _ _).alloc _).alloc _
     have hfb:Wf.heap[w.heap.size+1]? =some (.cells #[.int .i64 ck.kind,.int .i64 ck.v,.int .i64 ck.k,.slice A2 n2 c2] 24 (0,0)):=by
      rw[←hWf]
      have:=World.alloc_heap_new (w.alloc (.cells #[.int .i64 ck.kind,.int .i64 ck.v,.int .i64 ck.k,.slice A2 n2 c2] 24)) (.cells #[.int .i64 ck.kind,.int .i64 ck.v,.int .i64 ck.k,.slice A2 n2 c2] 24)
      rwa [World.size_alloc]at this
     have hkrf:KRG G W Wf:=fun b hb=>(hfk.block b (z8i HG.out HKR.out b hb) id).trans (HKR.out b hb)
     obtain⟨G3,hG3⟩:∃G3:Nat→Prop,G3=fun b=>G b∨b=w.heap.size+1:=⟨_,rfl⟩
     have hG3lt:∀b,G3 b→b<Wf.heap.size:=fun b hb=>by
      rw[hG3]at hb
      rcases hb with hb|hb
      ·exact z8i HG.out hkrf b hb
      ·omega
     have HSEQ:=Lib.hid (HXK.out Wf G3 (w.heap.size+1) 0 (fun b hb=>(hkrf b (HGG.out b hb)).trans (HK0.out b hb)) (fun b hb=>by rw[hG3];exact .inl (HGG.out b hb)) hG3lt (by rw[hG3];exact .inr rfl) (Blk.cell (show Blk Wf (w.heap.size+1) 24 _ from hfb) 0) (Blk.cell (show Blk Wf (w.heap.size+1) 24 _ from hfb) 1) (Blk.cell (show Blk Wf (w.heap.size+1) 24 _ from hfb) 2) (Blk.cell (show Blk Wf (w.heap.size+1) 24 _ from hfb) 3))
     obtain⟨Zf,hZf⟩:∃Zf,Zf=grew Zk w Wf:=⟨_,rfl⟩
     have HJF:=Lib.hid (show J (1+q0p (t.l.take k)+0) Zf Wf by rw[hZf];exact HJ.out _ _ _ _ HJK.out (hfk.mono fun _ _ h=>h.elim))
     have HZF:=Lib.hid (show(∀b,Zk b→Zf b)∧Zf (w.heap.size+1) by rw[hZf];exact⟨fun b hb=>.inl hb,.inr ⟨by omega,by omega⟩⟩)
     have HFK:=Lib.hid hfk
     have HFS:=Lib.hid hfs
     have HG3:=Lib.hid hG3
     have HG3L:=Lib.hid hG3lt
     have HKRF:=Lib.hid hkrf
     have HYF:=Lib.hid ((hfk.block s1 HSS.out id).trans HYS.out)
     clear hfk hfs hG3 hG3lt hkrf hfb hZf hWf
     gi_wp2_with fail
     refine k5e (q0r Tryz.func100 (by kernel_rfl) rfl) rfl (HSEQ.out.s (fun _=>False)) HG3L.out (fun i v hi hv=>by obtain⟨_,_,_,_,_,_,h⟩:=HNVK.out i hi;rw[hv];simp only[h];rfl) (fun i Z W=>J (1+q0p (t.l.take k)+i) Z W) (fun _=>HJ.out _) (fun Z W=>∃i,Jx i Z W) (fun Z W W' ⟨i,h⟩ hk=>⟨i,HJX.out i Z W W' h hk⟩) Zf (fun b h=>False.elim h) (fun b _ h=>h) (fun b h=>False.elim h) HJF.out ?body ?done ?ret
     case body=>
      rintro rec i Zi Wi l2 v hi hv hj hZi hzl hll hrl hst htm hpa hbd hkr hfr hsz
      subst hv
      obtain⟨q0,q1,q2,A3,n3,c3,hv⟩:=HNVK.out i hi
      have hat:=HATK.out i hi
      have hlt3:=HLTK.out i hi
      rw[hv]at hat⊢
      have HREC:=Lib.hid (And.intro hst (And.intro htm (And.intro hpa hbd)))
      have HKI:=Lib.hid hkr
      have HFI:=Lib.hid hfr
      have HJI:=Lib.hid hj
      have HZI:=Lib.hid hZi
      have HRL:=Lib.hid hrl
      have HZL:=Lib.hid hzl
      clear hst htm hpa hbd hkr hfr hj hZi hrl hzl hv
      have hl2s:l2<Wi.heap.size:=(Array.getElem?_eq_some_iff.1 HRL.out).1
      have hss:=HSS.out
      have hfs:=HFS.out
      have HJI2:=Lib.hid (show J (q0p (t.l.take k)+i+1) Zi Wi by rw[show q0p (t.l.take k)+i+1=1+q0p (t.l.take k)+i by omega];exact HJI.out)
      have HYI:=Lib.hid ((HFI.out s1 (HZF.out.1 s1 HZS.out) (by omega) id).trans HYF.out)
      have hyy:=fun W=>HY.out (1+q0p (t.l.take k)+i) (grew (grew Zi Wi (Wi.alloc (.cells #[I64 q0,I64 q1,I64 q2,.slice A3 n3 c3] 24))) (Wi.alloc (.cells #[I64 q0,I64 q1,I64 q2,.slice A3 n3 c3] 24)) W) W (by rw[HSZ.out];omega)
      simp only[show 1+q0p (t.l.take k)+i=(q0p (t.l.take k)+i)+1 by omega,Qk8]at hyy
      rw[hat]at hyy
      have HYY:=Lib.hid hyy
      clear hyy hat hlt3
      have hro2:(FR (some l2)).round=some l2:=rfl
      obtain⟨Wb,hWb⟩:∃Wb,Wi.alloc (.cells #[I64 q0,I64 q1,I64 q2,.slice A3 n3 c3] 24)=Wb:=⟨_,rfl⟩
      have hbs:Wb.heap.size=Wi.heap.size+1:=by rw[←hWb];simp
      have hbk:Kp (fun _=>False) Wi Wb:=by rw[←hWb];exact(Kp.refl _ _).alloc _
      have hbb:Blk Wb Wi.heap.size 24 #[I64 q0,I64 q1,I64 q2,.slice A3 n3 c3]:=by rw[←hWb];exact World.alloc_heap_new Wi _
      refine wpIn_mono (F:=FR (some l2)) (Q:=fun e a2 W2=>e=.normal∧W2=Wb∧∃y3 y4 y6 y7 y8 y9 y10 y11 y12 y13 y14 y15 y16 y17 y18 y19 y20 y21 y22 y23 y24:Value,a2={tmps:= #[.func (.yield l) #[] #[],.pointer (some ⟨p,o,none⟩),.pointer (some ⟨W1.heap.size,0,none⟩),y3,y4,.pointer (some ⟨Wi.heap.size,0,none⟩),y6,y7,y8,y9,y10,y11,y12,y13,y14,y15,y16,y17,y18,y19,y20,y21,y22,y23,y24],defers:=[]}) (by rw[←hWb];gi_wp2_with fail) ?_
      rintro e a2 W2 ⟨rfl,hW2,y3,y4,y6,y7,y8,y9,y10,y11,y12,y13,y14,y15,y16,y17,y18,y19,y20,y21,y22,y23,y24,rfl⟩
      subst hW2
      refine⟨rfl,(hbk.block l2 hl2s id).trans HRL.out,?_⟩
      obtain⟨Wk,hWk⟩:∃Wk,W2.putObj l2 (.loop {rec with state:=.busy})=Wk:=⟨_,rfl⟩
      rw[hWk]
      have hko:∀b,b≠l2→Wk.heap[b]? =W2.heap[b]? :=fun b hb=>by rw[←hWk];exact World.putObj_heap_other hb
      have hks:Wk.heap.size=W2.heap.size:=by rw[←hWk];simp
      have hk2:Wk.heap[l2]? =some (.loop {rec with state:=.busy}):=by rw[←hWk];exact World.putObj_heap_same (by omega)
      have hkk:Kp (grew Zi Wi W2) W2 Wk:=by rw[←hWk];exact u0l _ (.inl HZL.out)
      have hcs:Wk.cell? ⟨W1.heap.size,0,none⟩=some (.func (.yield l) #[] #[]):=by
       have h:=(hko s1 (by omega)).trans ((hbk.block s1 (by omega) id).trans HYI.out)
       rw[←HS1.out]
       exact Blk.cell (show Blk Wk s1 69 _ from h) 0
      have hbq:Blk Wk Wi.heap.size 24 #[I64 q0,I64 q1,I64 q2,.slice A3 n3 c3]:=(hko _ (by omega)).trans hbb
      have hq0:=hbq.cell 0
      have hq1:=hbq.cell 1
      have hq2:=hbq.cell 2
      have hq3:=hbq.cell 3
      simp at hq0 hq1 hq2 hq3
      have hyy:=HYY.out Wk (by rw[hWb];exact HJ.out _ _ _ _ (HJ.out _ _ _ _ HJI2.out (hbk.mono fun _ _ h=>h.elim)) hkk)
      obtain⟨fn,tmps,assign,body,hy,hR⟩:=hyy
      rw[hWb]at hR
      have HKO:=Lib.hid (show∀b,b<Wi.heap.size→b≠l2→Wk.heap[b]? =Wi.heap[b]? from fun b hb hn=>(hko b hn).trans (hbk.block b hb id))
      have HKS:=Lib.hid (hks.trans hbs)
      have HK2:=Lib.hid hk2
      obtain⟨POST,hPS⟩:∃POST:Exit→World→Prop,POST=fun e W3=>KRG G3 Wi W3∧Wi.heap.size≤W3.heap.size∧(∀b,Zi b→b<Wi.heap.size→b≠l2→W3.heap[b]? =Wi.heap[b]?)∧W3.heap[l2]? =some (.loop {rec with state:=.busy})∧∃Z3,(∀b,Zi b→Z3 b)∧
       ((e=.normal∧J (1+q0p (t.l.take k)+(i+1)) Z3 W3)∨(e=.ret∧∃i,Jx i Z3 W3)):=⟨_,rfl⟩
      refine wpIn_mono (F:=FR (some l2)) (Q:=fun e _ W3=>POST e W3) ?_ (fun e a W3 h=>by rw[hPS]at h;exact h)
      have HPS:=Lib.hid hPS
      clear hPS hWk hko hks hk2 hkk hbq hbb hbk hbs hWb hl2s hss hfs
      gi_wp2_with fail
      refine(y5r hR).mono ?_
      rintro e w5 ⟨hj5,hk5,hz5,hs5⟩
      have HP:=Lib.hid (show KRG G3 Wi w5∧Wi.heap.size≤w5.heap.size∧(∀b,Zi b→b<Wi.heap.size→b≠l2→w5.heap[b]? =Wi.heap[b]?)∧w5.heap[l2]? =some (.loop {rec with state:=.busy}) by
       have h1:=HKS.out
       have hzj:∀b,Zi b→b<Wi.heap.size→b≠l2→w5.heap[b]? =Wi.heap[b]? :=fun b hb hl hn=>(hz5 b (.inl (.inl hb))).trans (HKO.out b hl hn)
       refine⟨fun b hb=>?_,by omega,hzj,(hz5 l2 (.inl (.inl HZL.out))).trans HK2.out⟩
       have hbl:=HG3L.out b hb
       rw[HG3.out]at hb
       rcases hb with hb|hb
       ·exact(hk5 b hb).trans (HKO.out b (by omega) (by omega))
       ·exact hzj b (HZI.out b (hb▸HZF.out.2)) (by omega) (by omega))
      clear hk5 hz5 hs5 hR hy
      rcases hj5 with⟨rfl,hj5⟩|⟨rfl,hj5⟩
      ·have HJ5:=Lib.hid hj5
       clear hj5
       gi_wp2_with fail
       rw[HPS.out]
       obtain⟨g1,g2,g3,g4⟩:=HP.out
       exact⟨g1,g2,g3,g4,grew (grew Zi Wi W2) W2 Wk,fun b hb=>Or.inl (Or.inl hb),.inl ⟨rfl,by rw[show 1+q0p (t.l.take k)+(i+1)=q0p (t.l.take k)+i+1+1 by omega];exact HJ5.out⟩⟩
      ·have HJ5:=Lib.hid hj5
       clear hj5
       gi_wp2_with fail
       rw[HPS.out]
       obtain⟨g1,g2,g3,g4⟩:=HP.out
       exact⟨g1,g2,g3,g4,grew (grew Zi Wi W2) W2 Wk,fun b hb=>Or.inl (Or.inl hb),.inr ⟨rfl,_,HJ5.out⟩⟩
     case done=>
      intro D Z' W' hj hZ hkr hfr hsz hD hzD hDn
      have HPI:=Lib.hid (show KRG G W W'∧J (1+q0p (t.l.take (k+1))) Z' W'∧Z' s1∧W'.heap[s1]? =some (.cells #[.func (.yield l) #[] #[]] 69 (0,0))∧s1<W'.heap.size∧(D::Ds).Nodup∧∀D'∈D::Ds,Z' D'∧W'.heap[D']? =some dfr by
       have hss:=HSS.out
       have hfs:=HFS.out
       have hds:∀D'∈Ds,D'<w.heap.size:=fun D' h=>(Array.getElem?_eq_some_iff.1 (HDS.out D' h).2).1
       refine⟨fun b hb=>(hkr b (by rw[HG3.out];exact .inl hb)).trans (HKRF.out b hb),by rw[HSTK.out,←Qg5];exact hj,hZ _ (HZF.out.1 _ HZS.out),(hfr s1 (HZF.out.1 _ HZS.out) (by omega) id).trans HYF.out,by omega,List.nodup_cons.2 ⟨fun h=>by have:=hds D h;omega,HND.out⟩,fun D' h=>?_⟩
       rcases List.mem_cons.1 h with h|h
       ·exact h▸⟨hzD,hD⟩
       ·exact⟨hZ _ (HZF.out.1 _ (HDS.out D' h).1),(hfr D' (HZF.out.1 _ (HDS.out D' h).1) (by have:=hds D' h;omega) id).trans ((HFK.out.block D' (hds D' h) id).trans (HDS.out D' h).2)⟩)
      clear hj hZ hkr hfr hsz hD hzD hDn
      have HWK:=Lib.hid (show wrap64 ((k:Int)+1)=((k+1:Nat):Int) by have:=HMX.out;unfold maxLen at this;unfold wrap64;omega)
      gi_wp2_with fail
      rw[HWK.out]
      refine⟨⟨k+1,Z',D::Ds,_,_,_,_,_,_,_,_,_,_,_,_,_,_,_,_,_,_,rfl,hlt,HPI.out⟩,?_⟩
      simp[intOf];omega
     case ret=>
      intro D Z' W' hj hZ hkr hfr hsz hD hzD hDn
      have HPI:=Lib.hid (show(∃i,Jx i Z' W')∧(D::Ds).Nodup∧∀D'∈D::Ds,Z' D'∧W'.heap[D']? =some dfr by
       have hfs:=HFS.out
       have hds:∀D'∈Ds,D'<w.heap.size:=fun D' h=>(Array.getElem?_eq_some_iff.1 (HDS.out D' h).2).1
       refine⟨hj,List.nodup_cons.2 ⟨fun h=>by have:=hds D h;omega,HND.out⟩,fun D' h=>?_⟩
       rcases List.mem_cons.1 h with h|h
       ·exact h▸⟨hzD,hD⟩
       ·exact⟨hZ _ (HZF.out.1 _ (HDS.out D' h).1),(hfr D' (HZF.out.1 _ (HDS.out D' h).1) (by have:=hds D' h;omega) id).trans ((HFK.out.block D' (hds D' h) id).trans (HDS.out D' h).2)⟩)
      clear hj hZ hkr hfr hsz hD hzD hDn
      gi_wp2_with fail
      refine z9e (D::Ds) W' HPI.out.2.1 (fun D' hD=>(HPI.out.2.2 D' hD).2) fun W3 hk=>?_
      obtain⟨ix,hx⟩:=HPI.out.1
      refine⟨_,results_none rfl _ _ _,⟨_,rfl⟩,.inr ⟨_,_,HJX.out _ _ _ _ hx (hk.mono fun D' _ hD=>(HPI.out.2.2 D' hD).1)⟩⟩
    ·obtain rfl:k=t.l.length:=by omega
     gi_wp2_with fail
     refine z9e Ds w HND.out (fun D hD=>(HDS.out D hD).2) fun W' hk=>?_
     refine⟨_,results_none rfl _ _ _,⟨_,rfl⟩,.inl ⟨grew Zk w W',?_⟩⟩
     have:=HJ.out _ _ _ _ HJK.out (hk.mono fun D _ hD=>(HDS.out D hD).1)
     rw[HTL.out,←HSZ.out]at this
     exact this
def y9j:ItF
 |[.pto [.val (.int .i64 q),.val (.int .i64 v),.val (.int .i64 k),.ls (.trees l)]]=>some (True,q2a (.node q v k l),fun i=>[.agg [.int ((q0v (.node q v k l)).getD i q0a).kind,.int ((q0v (.node q v k l)).getD i q0a).v,.int ((q0v (.node q v k l)).getD i q0a).k,.trees ((q0v (.node q v k l)).getD i q0a).l]])
 |_=>none
theorem y0t:z2s Tryz.prog 100 y9j:=by
 refine⟨q0r Tryz.func100 (by kernel_rfl) rfl,fun W G caps vs p N el hG hgl hσ hp hd=>?_⟩
 unfold y9j at hσ
 split at hσ
 ·rename_i q v k l
  injection hσ with hσ
  injection hσ with h1 h2
  injection h2 with h2 h3
  subst h1 h2 h3
  simp only[q0e,Den]at hd
  obtain⟨v1,vs1,rfl,⟨p1,o1,rfl,g1,hc1⟩,rfl⟩:=hd
  obtain⟨u0,hu0,hr0⟩:=hc1 0 (.val (.int .i64 q)) rfl
  obtain⟨u1,hu1,hr1⟩:=hc1 1 (.val (.int .i64 v)) rfl
  obtain⟨u2,hu2,hr2⟩:=hc1 2 (.val (.int .i64 k)) rfl
  obtain⟨u3,hu3,hr3⟩:=hc1 3 (.ls (.trees l)) rfl
  have e0:u0=I64 q:=q0b (g:=g0 W G) (by simp only[Den];exact hr0)
  have e1:u1=I64 v:=q0b (g:=g0 W G) (by simp only[Den];exact hr1)
  have e2:u2=I64 k:=q0b (g:=g0 W G) (by simp only[Den];exact hr2)
  subst e0 e1 e2
  obtain⟨L,hL1,hL2,hL3⟩:=k3i (q2a (.node q v k l)+1) (.node q v k l) (by omega) W G hG u3 hr3
  refine⟨fun i=>L.getD i #[],fun i hi=>?_,hL3 W G p1 o1 (fun _ _=>rfl) (fun _ h=>h) hG g1 hu0 hu1 hu2 hu3⟩
  obtain⟨u,h1,s,rfl,h3⟩:=hL2 i hi
  simp only[h1,q0e]
  refine⟨_,_,rfl,?_,rfl⟩
  simp only[Den,q0e]
  exact⟨_,rfl,_,_,rfl,.val _,_,_,rfl,.val _,_,_,rfl,.val _,_,_,rfl,h3,rfl⟩
 ·cases hσ
#print axioms y0t
end Go.Proofs.YteikjpbbhopkaaaGreatDoor.En
namespace Go.Proofs.YteikjpbbhopkaaaGreatDoor.En
open Go Go.RowKit
set_option maxRecDepth 100000 in
set_option maxHeartbeats 1000000 in
theorem v1d (n:Nat) (hn:n≤60) (m:Int) (w:World):Calls Tryz.prog 9 #[.int .i64 n,.int .i64 m] w fun e w'=>z4p 4 w ((j0e n m).map Value.bool) e w':=by
 obtain⟨i0,hi,hz0,hz1,hz2⟩:=y4a y1y
 have HI:=Lib.hid (And.intro hi (And.intro hz0 (And.intro hz1 hz2)))
 clear hi hz0 hz1 hz2
 go_enter Tryz.func9,Tryz.ntmps9
 go_wp2_with fail
 go_loopw [5,6,9] (fun av _ kv wr=>∃(k:Nat) (A:Option Addr) (c:Nat),kv=.int .i64 k∧k≤n∧av=.slice A (k+1) c∧Own wr 4 (.slice A (k+1) c) ((j0e k m).map Value.bool)∧(∀g,(Value.slice A (k+1) c).ownBlock=some g→w.heap.size≤g)∧Below w.heap.size w wr) (fun _ _ kv _=>n-(intOf kv).toNat)
 case atStart=>
  refine⟨0,some ⟨w.heap.size,0,none⟩,1,rfl,Qc1 _,rfl,.inr ⟨w.heap.size,0,1,#[.bool false],rfl,.mk0 (heap_alloc_new w _),Qb8 _,by decide,Qb8 _,fun j hj=>?_⟩,fun g hg=>?_,(Below.refl _ w).alloc (Qb8 _) _⟩
  ·have:j=0:=by simpa[j0e]using hj
   subst this
   rfl
  ·simp[Value.ownBlock]at hg;omega
 case round=>
  obtain⟨k,A,c,rfl,hk,rfl,ho,hg,hb⟩:=hrel
  have HO:=Lib.hid ho
  have HG:=Lib.hid hg
  have HB:=Lib.hid hb
  clear ho hg hb
  by_cases hlt:k<n
  ·have HLn:=Lib.hid (show((j0e k m).map Value.bool).length=k+1 by rw[Qa9,q7l])
   have HV:=Lib.hid (show(j0e (k+1) m).map Value.bool=(j0e k m).map Value.bool++[.bool (bits BinOp.and IntKind.i64 (m/2^k) 1==1)] by rw[←k0n,Qd4];rfl)
   generalize (j0e k m).map Value.bool=olds at HO HLn HV
   go_wp2_with (at_builtin;refine q3t _ rfl (.tmp 12) (.tmp 18) 40 rfl 4 i0 (.bool false) 1 Tryz.underlying40 HI.out.1 HI.out.2.1 HI.out.2.2.1 HI.out.2.2.2 rfl _ olds (k+1) HLn.out rfl (HO.out.alloc _) ⟨wr.heap.size,0,none⟩ 1 (.bool (bits BinOp.and IntKind.i64 (m/2^k) 1==1)) rfl ?c1 rfl ?c2 ?c3 ?_)
   case c1=>exact(cell_of_row _ _ _ _ _ _ (heap_alloc_new _ _)).trans rfl
   case c2=>unfold maxLen;omega
   case c3=>omega
   intro g2 o2 cp2 w5 hown5 hg5 hat5
   have HOw5:=Lib.hid hown5
   have HB5:=Lib.hid ((HB.out.alloc HB.out.size _).grown hg5 (Qc0 HB.out.size (by simp)) (fun g e=>HG.out g e))
   have HG5:=Lib.hid (show∀g,(Value.slice (some ⟨g2,o2,none⟩) (k+1+1) cp2).ownBlock=some g→w.heap.size≤g from fun g e=>by
    have e:g2=g:=by simpa[Value.ownBlock]using e
    subst e
    rcases hat5 with e|e
    ·exact HG.out _ e
    ·have:=HB.out.size;omega)
   clear hown5 hg5 hat5
   go_wp2_with fail
   go_roundw
   case rel=>exact⟨k+1,_,_,by go_num,hlt,rfl,by rw[HV.out];exact HOw5.out,HG5.out,HB5.out⟩
   case measure=>simp[intOf];omega
  ·obtain rfl:k=n:=by omega
   have HLn:=Lib.hid (show((j0e k m).map Value.bool).length=k+1 by rw[Qa9,q7l])
   go_wp2_with fail
   go_ret
   unfold z4p
   rw[HLn.out]
   exact⟨A,c,rfl,HO.out,HB.out,HG.out⟩
def v1o:CtF:=fun args os=>match args,os with
 |[.im (.val (.int .i64 n)),.im (.val (.int .i64 m))],[]=>some (0≤n∧n≤60,.row 0,[some (.row 4 (.bools (j0e n.toNat m)))])
 |_,_=>none
theorem x5a:q0c Tryz.prog 9 v1o:=by
 refine z1v (e:=4) (q0r Tryz.func9 (by kernel_rfl) rfl) fun args os p r outs h=>?_
 unfold v1o at h
 split at h
 ·rename_i n m
  injection h with h
  injection h with h1 h
  injection h with h2 h3
  subst h1 h2 h3
  refine⟨.bools (j0e n.toNat m),rfl,rfl,rfl,rfl,fun hp=>⟨by show(j0e n.toNat m).length≤maxLen;rw[q7l];unfold maxLen;omega,fun W G vs hG _ hd=>?_⟩⟩
  simp only[q0e]at hd
  obtain⟨v,vs',rfl,hd0,u,us,rfl,hd1,rfl⟩:=hd
  rw[q0b hd0,q0b hd1]
  obtain⟨k,rfl⟩:=Qi4 hp.1
  refine(v1d k (by omega) m W).mono ?_
  rintro e' W' ⟨A,c,rfl,h1,h2,h3⟩
  exact⟨_,rfl,h1,h2,h3⟩
 ·cases h
end Go.Proofs.YteikjpbbhopkaaaGreatDoor.En
