/- Lemmas and contracts for the row. -/
import Derived.Test.YteikjpbbhopkaaaGreatDoorPkRowElimGatesAB
import Derived.Test.YteikjpbbhopkaaaGreatDoorPkRowElimGatesR
set_option linter.unusedVariables false
set_option linter.unusedSimpArgs false
set_option linter.unnecessarySimpa false
namespace Go.Proofs.YteikjpbbhopkaaaGreatDoor.En
open Go Go.RowKit
theorem Tcd {k:Ct} {S:Env×Hp} {id:Nat} {ops:Array Oper} {Q:Exit→Act→World→Prop} (cx:Cx) (hcx:q1c k.P cx) (hmx:k.P.follows .mixedOrders=true) (wt:List Nat) (ρ:List (Nat×RM)) (ky dk dn:List Nat) (ps:List Prop) (hp:q3n ps) (hf:Fg k (rgS true (k0q k cx) ops wt ρ ky dk dn S) Q .normal) (h:rgP true (k0q k cx) ops wt ρ ky dk dn S=some ps:=by kernel_rfl):Tg k S (.region id ops true) Q:=
 Td (k:=k0q k cx) hcx hmx wt ρ ky dk dn ps hp hf h
theorem q0c.weak {P:Program} {f:Nat} {σ τ:CtF} (h:q0c P f σ) (hst:∀args os p r outs,τ args os=some (p,r,outs)→∃p' r',σ args os=some (p',r',outs)∧(p→p'∧r'=r)):q0c P f τ:=by
 refine⟨h.1,fun g args os vs p r outs hσ hp hm hU hd=>?_⟩
 obtain⟨p',r',e,h2⟩:=hst args os p r outs hσ
 obtain⟨hp',rfl⟩:=h2 hp
 exact h.2 g args os vs p' r' outs e hp' hm hU hd
theorem j9p {W:World} {G:Nat→Prop} (hgl:j2i (g0 W G)):TabAt W:=by
 have h:=((hgl 1 (Lib.deBruijn64tab.map fun(n:Nat)=>Value.int .u8 (n:Int)) rfl).2.1 rfl).1
 have hl:Lib.deBruijn64tab.length=64:=rfl
 intro j hj
 refine h j _ ?_
 rw[Qg6,Qa1,Qa0 (by omega)]
 rfl
theorem u7i {B:Nat} {W:World} {G:Nat→Prop} {v:Value} {xs:List Int} (h:Cl (fun b=>B≤b) W v xs) (hm:xs.length≤maxLen) (hG:∀b,T3 (fun b=>B≤b) W b→G b):Rep W G (.ls (.ints xs)) v:=by
 obtain⟨A,c,rfl,hc,hr⟩:=h
 exact x7d (enc:=I64) (l:=.ints xs) (hr.mono hG) hm rfl rfl hc (fun i hi=>by simp[LD.cell,List.getD,Qa0 hi,I64])
theorem x7r {B:Nat} {W:World} {G:Nat→Prop} {ov:Value} {cs:List (List Int)} (h:Bag B W ov cs) (hx:∀c∈cs,c.length≤maxLen) (hG:∀b,B≤b→b<W.heap.size→ov.ownBlock≠some b→G b):
 ∃vs,Own W 34 ov vs∧vs.length=cs.length∧∀i,i<cs.length→Rep W G (.ls (.ints (cs.getD i []))) (vs.getD i undef):=by
 obtain⟨vs,h1,h2,h3,h4⟩:=h
 refine⟨vs,h1,h3,fun i hi=>?_⟩
 have e1:vs.getD i undef=vs[i]'(by omega):=by simp[List.getD,Qa0 (show i<vs.length by omega)]
 have e2:cs.getD i []=cs[i]:=by simp[List.getD,Qa0 hi]
 rw[e1,e2]
 exact u7i (h4 i _ _ (Qa0 (by omega)) (Qa0 hi)) (hx _ (Qc7 hi)) (fun b hb=>hG b hb.2 hb.lt (hb.ne_own h1 (by decide)))
def j6j:k1o
 |[.im (.ls (.ints l)),.im (.val (.int .i64 k))]=>some (l.length≤1000000000,.tup [.intss (Cn.q1o l k).1,.int (Cn.q1o l k).2])
 |_=>none
theorem x0h {g:Gh} {a b:AV} {u v:Value} (h1:Den g a u) (h2:Den g b v):Den g (.tup [a,b]) (.tuple #[u,v]):=by
 rw[Den]
 refine⟨[_,_],rfl,?_⟩
 simp only[q0e]
 exact⟨_,_,rfl,h1,_,_,rfl,h2,rfl⟩
theorem k6a {g:Gh} {a b c d:AV} {u v w x:Value} (h1:Den g a u) (h2:Den g b v) (h3:Den g c w) (h4:Den g d x):Den g (.tup [a,b,c,d]) (.tuple #[u,v,w,x]):=by
 rw[Den]
 refine⟨[_,_,_,_],rfl,?_⟩
 simp only[q0e]
 exact⟨_,_,rfl,h1,_,_,rfl,h2,_,_,rfl,h3,_,_,rfl,h4,rfl⟩
theorem y2a:j4m Tryz.prog 111 j6j:=by
 refine⟨fun args W=>q0r (fn:=Tryz.f111) Tryz.func111 (by kernel_rfl) rfl args W,fun W G args vs p r hG hgl hs hp hd=>?_⟩
 unfold j6j at hs
 split at hs
 ·rename_i l k
  simp only[Option.some.injEq,Prod.mk.injEq]at hs
  obtain⟨rfl,rfl⟩:=hs
  obtain⟨u,u',rfl,h1,h2⟩:=q4u hd
  simp only[Den]at h1
  obtain⟨A,c,rfl,r1,m1⟩:=q8w h1 hG
  rw[q0b h2]
  refine(x8m A c l k W r1 (j9p hgl) hp).mono fun e w' he=>?_
  have hln:=Cn.z0b l k
  cases hs:q3d l k with
  |err e0=>
   rw[hs]at he
   obtain⟨rfl,hb⟩:=he
   have hq:Cn.q1o l k=([],e0):=by unfold Cn.q1o;rw[hs]
   rw[hq]
   refine⟨_,rfl,hb,x0h ?_ (q0g _)⟩
   simp only[Den]
   exact .nil _ _ _ rfl
  |ok cs=>
   rw[hs]at he
   obtain⟨C,cC,rfl,_,_,hb,hbag⟩:=he
   have hq:Cn.q1o l k=(cs,0):=by unfold Cn.q1o;rw[hs]
   rw[hq]at hln⊢
   refine⟨_,rfl,hb,x0h ?_ (q0g _)⟩
   obtain⟨ws,q1,q2,q3⟩:=x7r (G:=fun b=>G b∨(W.heap.size≤b∧b<w'.heap.size)) hbag (fun x hx=>by have:=hln.2 x hx;unfold maxLen;omega) (fun b h1 h2 _=>.inr ⟨h1,h2⟩)
   obtain⟨_,_,hbk,_⟩:=hbag
   simp only[Den]
   exact k1v (l:=.intss cs) q1 q2 (by show cs.length≤maxLen;have:=hln.1;unfold maxLen;simp only at this;omega) rfl q3 (fun b hb'=>.inr ⟨hbk b (by rw[←q7g q1];exact hb'),q1.lt (by rw[←q7g q1];exact hb')⟩)
 ·cases hs
def x6w:CtF:=fun args os=>match args,os with
 |[.im (.ls (.ints C)),.im (.ls (.ints L)),.im (.val (.int .i64 n))],[]=>some (C.length≤1000000000∧L.length≤1000000000,.tup [.ints (Cn.q2l C L n).1,.row 0,.int (Cn.q2l C L n).2.2.1,.int (Cn.q2l C L n).2.2.2],[some (.row 34 (.intss (Cn.q2l C L n).2.1))])
 |_,_=>none
theorem u4n {C L:List Int} {n:Int} {w w':World} {e:Ending} (h:z3o w (z1o C L n) e w'):∃A cA C' cC,e=.returned (.tuple #[.slice A (Cn.q2l C L n).1.length cA,.slice C' (Cn.q2l C L n).2.1.length cC,I64 (Cn.q2l C L n).2.2.1,I64 (Cn.q2l C L n).2.2.2])∧Below w.heap.size w w'∧
 Own w' 3 (.slice A (Cn.q2l C L n).1.length cA) ((Cn.q2l C L n).1.map I64)∧(∀b,(Value.slice A (Cn.q2l C L n).1.length cA).ownBlock=some b→w.heap.size≤b)∧Bag w.heap.size w' (.slice C' (Cn.q2l C L n).2.1.length cC) (Cn.q2l C L n).2.1:=by
 cases hs:z1o C L n with
 |err c=>
  rw[hs]at h
  obtain⟨rfl,hb⟩:=h
  have hq:Cn.q2l C L n=([],[],0,c):=by unfold Cn.q2l;rw[hs]
  rw[hq]
  exact⟨none,0,none,0,rfl,hb,Own.nil _ _,fun b hb=>by simp[Value.ownBlock]at hb,Bag.nil _ _⟩
 |ok bits cs after=>
  rw[hs]at h
  obtain⟨A,cA,C',cC,rfl,_,_,_,_,hb,h1,h2,h3⟩:=h
  have hq:Cn.q2l C L n=(bits,cs,after,0):=by unfold Cn.q2l;rw[hs]
  rw[hq]
  exact⟨A,cA,C',cC,rfl,hb,h1,h2,h3⟩
theorem x3g:q0c Tryz.prog 110 x6w:=by
 refine⟨fun args W=>q0r (fn:=Tryz.f110) Tryz.func110 (by kernel_rfl) rfl args W,fun g args os vs p r outs hσ hp hm hU hd=>?_⟩
 unfold x6w at hσ
 split at hσ
 ·rename_i C L n
  simp only[Option.some.injEq,Prod.mk.injEq]at hσ
  obtain⟨rfl,rfl,rfl⟩:=hσ
  have hU':∀r,¬g.U r:=fun r hr=>absurd (hU r hr) (by simp)
  have hd':q0e (g0 g.W g.G) [.im (.ls (.ints C)),.im (.ls (.ints L)),.im (.val (.int .i64 n))] vs:=by
   have:=q0e.map (f:=id) (g:=g) (g':=g0 g.W g.G) rfl rfl _ vs (fun r _ hu=>absurd hu (hU' r)) hd
   rwa [q5w]at this
  have hG:∀b,g.G b→b<g.W.heap.size:=fun b hb=>(hm.gb b hb).1
  obtain⟨u1,u2,u3,rfl,h1,h2,h3⟩:=y5w hd'
  simp only[Den]at h1 h2
  obtain⟨A,k,rfl,r1,m1⟩:=q8w h1 hG
  obtain⟨A',k',rfl,r2,m2⟩:=q8w h2 hG
  rw[q0b h3]
  refine Calls.mono (u4w A A' k k' C L n g.W r1 r2 (j9p (G:=g.G) (fun kk ys hk=>hm.anc.2 kk ys hk)) hp.1 hp.2) fun e W' he=>?_
  have hln:=Cn.z5r C L n
  replace he:=u4n he
  generalize Cn.q2l C L n=Q at he hln⊢
  obtain⟨bits,cs,after,er⟩:=Q
  simp only at he hln⊢
  obtain⟨Ab,cb,Ac,cc,rfl,hb,hob,hbn,hbag⟩:=he
  let cv:Value:=.slice Ac cs.length cc
  let g':Gh:=⟨W',fun b=>g.G b∨(g.W.heap.size≤b∧b<W'.heap.size∧cv.ownBlock≠some b),fun r=>if r=0 then cv else g.β r,fun r=>g.U r∨r=0⟩
  have hle:g.le g':=⟨fun b hg=>hb.block b (hG b hg),fun _ hb=>.inl hb,fun r hr=>absurd hr (hU' r)⟩
  have hlk:∀x o,q3s [some (.row 34 (.intss cs))] x=some o→x=0∧o=.row 34 (.intss cs):=by
   intro x o hx
   match x,hx with
   |0,hx=>simp[q3s]at hx;exact⟨rfl,hx.symm⟩
   |n+1,hx=>simp[q3s]at hx
  have hb0:g'.β 0=cv:=by show(if(0:Nat)=0 then cv else g.β 0)=cv;rw[if_pos rfl]
  obtain⟨ws,q1,q2,q3⟩:=x7r (G:=g'.G) hbag (fun x hx=>by have:=hln.2.2 x hx;unfold maxLen;omega) (fun b h1 h2 h3=>.inr ⟨h1,h2,h3⟩)
  obtain⟨_,_,hbk,_⟩:=hbag
  have hblk:q1k cv=cv.ownBlock:=q7g q1
  refine⟨_,g',rfl,rfl,hle,⟨fun x o hx=>?_,fun x x' o o' b hx hx' _ _=>(hlk x o hx).1.trans (hlk x' o' hx').1.symm,fun x o b hx hbb=>?_,fun b hg=>?_,⟨hb.os,hb.tape,hb.output,hb.size,fun b hlt _=>hb.block b hlt⟩,fun r hr=>absurd hr (by simp),hm.anc.2.up hle⟩,?_⟩
  ·obtain⟨rfl,rfl⟩:=hlk x o hx
   refine⟨.inr rfl,?_⟩
   rw[hb0]
   have hr1:=v2u (l:=.intss cs) (W:=W') (G:=g'.G) (e:=34) (v:=cv) (xs:=ws) rfl q2 q1 q3
   exact⟨ws,hr1.1,by show cs.length≤maxLen;have:=hln.2.1;unfold maxLen;omega,hr1.2⟩
  ·obtain⟨rfl,rfl⟩:=hlk x o hx
   rw[hb0,hblk]at hbb
   have:=hbk b hbb
   refine⟨fun hg=>?_,.inl this⟩
   rcases hg with hg|hg
   ·have:=hG b hg;omega
   ·exact hg.2.2 hbb
  ·rcases hg with hg|hg
   ·exact⟨Qc2 (hG b hg) hb.size,(hm.gb b hg).2⟩
   ·exact⟨hg.2.1,.inr (.inl hg.1)⟩
  ·refine k6a ?_ ?_ (q0g _) (q0g _)
   ·simp only[Den]
    exact z3n hob (by have:=hln.1;unfold maxLen;omega) (fun b hb'=>.inr ⟨hbn b hb',hob.lt hb',fun e=>(show T3 (fun _=>True) W' b from⟨hob.ty0 hb' (by decide),trivial⟩).ne_own q1 (by decide) e⟩)
   ·simp only[Den]
    exact⟨.inr rfl,hb0.symm,.inl ⟨Ac,_,cc,rfl⟩⟩
 ·cases hσ
end Go.Proofs.YteikjpbbhopkaaaGreatDoor.En
