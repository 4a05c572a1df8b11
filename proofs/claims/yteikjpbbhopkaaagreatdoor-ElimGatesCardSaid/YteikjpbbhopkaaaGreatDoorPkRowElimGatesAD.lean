/- Lemmas and contracts for the row. -/
import Derived.Test.YteikjpbbhopkaaaGreatDoorPkRowElimGatesAB
set_option linter.unusedVariables false
set_option linter.unusedSimpArgs false
set_option linter.unnecessarySimpa false
namespace Go.Proofs.YteikjpbbhopkaaaGreatDoor.En
open Go Go.RowKit
def pan (v:Value) (e:Ending) (u:Value):Prop:=e=.panicked [{v:=v,recovered:=false}]
theorem q2u {F:Fence} {n:Nat} {P:Program} {fn:Func} {tmps:Array Value} {R R':Ending→World→Prop} (hR:∀e w,R e w→R' e w):∀(ds:List Deferred) (u:FrameMode) (w:World),LeavesInM F n P fn tmps R ds u w→LeavesInM F n P fn tmps R' ds u w
 |[],.returning,w,⟨v,h,q⟩=>⟨v,h,hR _ _ q⟩
 |[],.panicking c,w,h=>hR _ _ h
 |[],.run,w,h=>h.elim
 |d::ds,u,w,⟨h,.inl ⟨r,w',h1,h2,h3⟩⟩=>⟨h,.inl ⟨r,w',h1,h2,q2u hR ds u w' h3⟩⟩
 |d::ds,u,w,⟨h,.inr ⟨hn,fv,cap,f,args,h1,h2,h3,h4⟩⟩=>⟨h,.inr ⟨hn,fv,cap,f,args,h1,h2,h3,h4.mono fun e u' w' q=>by
  cases e with
  |returned v=>exact q2u hR ds _ w' q
  |panicked c=>exact q2u hR ds _ w' q
  |outgrown=>exact hR _ _ q⟩⟩
theorem z3v {F:Fence} {n:Nat} {P:Program} {fn:Func} {R R':Ending→World→Prop} (hR:∀e w,R e w→R' e w) (e:Exit) (a:Act) (w:World) (h:bodyPostM F n P fn R e a w):bodyPostM F n P fn R' e a w:=by
 cases e with
 |normal=>exact q2u hR _ _ _ h
 |ret=>exact q2u hR _ _ _ h
 |panic c=>exact q2u hR _ _ _ h
 |outgrown=>exact hR _ _ h
 |_=>exact h
section
variable {P:Program} {cx:Cx} {w0:Base} {G0:Nat→Prop} {n:Nat} {U:Nat→Prop} {ops:Array Oper} {Q:Exit→Act→World→Prop}
def j4e (o:Oper) (S:St) (f:Nat) (σ:CtF) (nm:Nat):Out:=
 match o.guard,o.op with
 |none,.call c=>(match c.callee with
  |.value x=>(match S.ev x with|.clo f' []=>bif Nat.beq f' f&&Nat.blt f bndK then j1q σ nm S.heap (c.args.toList.map S.ev)else none|_=>none)
  |_=>none)
 |_,_=>none
theorem z9n {rd:Option Nat} {o:Oper} {S:St} {f nm:Nat} {σ:CtF} {ε:Value} {a:Act} {W:World} {ps:List Prop} {r:AV} {hs:List (Nat×Option q0d)} (hso:q3v P f σ (pan ε)) (hsim:z0o w0 G0 n U S a W) (h:j4e o S f σ nm=some (ps,r,hs)) (hps:q3n ps)
 (hn:∀x,q1i nm x=true→¬U x) (hQ:∀W',z0o w0 G0 n (fun _=>True) ⟨S.env,q2e S.heap hs⟩ a W'→Q (.panic [{v:=ε,recovered:=false}]) a W') (K:Act→World→Prop):
 if Region.wanted o (yielded ops a.tmps)=true then o.wpIn (FR rd) 3 P a W K Q else(∀f,o.about P W a.eval=some f→(FR rd).fn f)∧K (a.put o.dst undef) W:=by
 obtain⟨hsz,hdf,g,rfl,hU,hm,henv⟩:=hsim
 unfold j4e at h
 split at h
 ·rename_i c hg hop
  split at h
  ·rename_i x hb
   split at h
   ·rename_i f' hx
    cases hbb:(Nat.beq f' f&&Nat.blt f bndK)with
    |false=>rw[hbb]at h;cases h
    |true=>
     rw[hbb]at h
     simp only[cond_true]at h
     simp only[Qa2]at hbb
     have hff:f'=f:=Qb0 hbb.1
     subst hff
     rw[if_pos (by simp[Region.wanted,hg])]
     have hd:=y0x hm.anc.2 henv x
     rw[hx]at hd
     simp only[Den,q0e]at hd
     obtain⟨ks,hv,rfl⟩:=hd
     rw[z1u hbb.2]at hv
     have hall:q0e g (c.args.toList.map S.ev) (c.args.toList.map a.eval).toArray.toList:=by simpa using y6b hm.anc.2 henv c.args.toList
     have hcall:=y1d hso (fun _ _ h=>h) hm (fun r hr hu=>hn r hr (hU r hu)) hall h hps
     have hrun:(execOp a.eval o).run P g.W=.ok (.enter f' (c.args.toList.map a.eval).toArray) g.W:=by
      simp[execOp,hop,resolve,hb,hv,Deferred.ofValue,invoke,hso.1,←Array.toList_map]
     refine⟨fun _ _=>trivial,?_⟩
     rw[Oper.semAt_eq _ _ _ (fun c' e=>by rw[hop]at e;cases e),hrun]
     refine⟨fun hd=>(by cases hd),q2p.2 (Calls.mono hcall fun e W' he=>?_)⟩
     obtain⟨u,rfl,g',h1,h2,h3,h4,h5⟩:=he
     exact hQ W' ⟨hsz,hdf,g',h1,fun _ _=>trivial,h4,fun i=>Den.mono h2 _ _ (henv i)⟩
   ·cases h
  ·cases h
 ·cases h
def y2f (o:Oper):Bool:=match o.op with|.move _=>true|.load _ _=>true|_=>false
theorem quiet_step {nm:Nat} {o:Oper} {S:St} {ps:List Prop} {v:AV} {hs:List (Nat×Option q0d)} (hq:y2f o=true) (h:q1f cx ops nm o S=some (ps,v,hs)):hs=[]:=by
 unfold q1f at h
 cases hc:core cx nm o.op (q3q o.op (q9g S o)).2 (inL (readsOf S o) S.heap)with
 |none=>rw[hc]at h;cases h
 |some t=>
  obtain⟨p,v',hs'⟩:=t
  rw[hc]at h
  have key:hs'=[]:=by
   unfold y2f at hq
   split at hq
   ·rename_i x hop
    rw[hop]at hc
    simp only[core]at hc
    unfold k6w at hc
    split at hc
    ·exact(q0q hc).2.2
    ·cases hc
   ·rename_i t x hop
    rw[hop]at hc
    simp only[core]at hc
    unfold k4w at hc
    simp only[cond]at hc
    repeat' split at hc
    all_goals first|exact(q0q hc).2.2|exact(q1s hc).2.2|cases hc
   ·cases hq
  subst key
  simp only[u8p]at h
  repeat' split at h
  all_goals first|(cases h;rfl)|(simp only[Option.some.injEq,Prod.mk.injEq]at h;exact h.2.2.symm)|cases h
theorem y1e:∀{l:List (Nat×Oper)} {S Sf:St} {ps:List Prop} {R:List Rec},(∀x∈l,y2f x.2=true)→q2d cx ops l S=some (ps,Sf,R)→Sf.heap=S.heap
 |[],S,Sf,ps,R,_,h=>by simp only[q2d,Option.some.injEq,Prod.mk.injEq]at h;obtain⟨_,rfl,_⟩:=h;rfl
 |(j,o)::l,S,Sf,ps,R,hq,h=>by
  simp only[q2d]at h
  cases hs:q1f cx ops (1000+j) o S with
  |none=>rw[hs]at h;cases h
  |some t=>
   obtain⟨p,v,hs'⟩:=t
   rw[hs]at h
   simp only at h
   have e:=quiet_step (hq _ Qb4) hs
   subst e
   cases hr:q2d cx ops l (S.put o.dst v [])with
   |none=>rw[hr]at h;cases h
   |some t2=>
    obtain⟨q,S',R'⟩:=t2
    rw[hr]at h
    simp only[Option.some.injEq,Prod.mk.injEq]at h
    obtain⟨_,rfl,_⟩:=h
    exact(y1e (fun x hx=>hq x (Qb7 _ hx)) hr).trans rfl
theorem z4n {ρ:List (Nat×RM)} {S S':St} (hh:S.heap=S'.heap):∀{ks:List Nat},(∀i∈ks,S.env i=S'.env i)→q4d ρ S ks=q4d ρ S' ks
 |[],_=>rfl
 |i::ks,h=>by unfold q4d;rw[hh,h i Qb4,z4n hh fun j hj=>h j (Qb7 _ hj)]
def q9b (wt:List Nat) (c:Nat) (x:Nat×Oper):Bool:= !Nat.beq x.1 c&& !y4n wt c x.1
def u3t (ops:Array Oper) (wt:List Nat) (c:Nat) (oc:Oper) (ks:List Nat):Bool:=
 (q2v 0 ops.toList).all fun x=> !q9b wt c x||((match x.2.dst with|some d=> !q5q d ks&&(!q5q d (oc.looksAt ops)||y4n wt x.1 c)|none=>true)&&(y4n wt x.1 c||y2f x.2))
def x7c (cx:Cx) (ops:Array Oper) (wt:List Nat) (m n c f:Nat) (σ:CtF) (ρ:List (Nat×RM)) (ks:List Nat) (E:Env) (H:Hp):Option (List Prop×Env×Hp):=
 match ops[c]?,q2d cx ops ((q2v 0 ops.toList).filter (q9b wt c)) (q5i E H)with
 |some oc,some (ps,Sf,R)=>
  bif (q8q n (q2v 0 ops.toList)&&(z3h (q2v 0 ops.toList)&&(k8g ops wt&&q4y ops wt R)))&&(u3t ops wt c oc ks&&Nat.ble ops.size 1000)then
   (match j4e oc Sf f σ (1000+c)with
   |some (qs,_,hs)=>bif z0j m ρ&&q8a ρ (q2e Sf.heap hs)then some (ps++qs,q4d ρ ⟨Sf.env,q2e Sf.heap hs⟩ ks,q1y ρ (q2e Sf.heap hs) ρ)else none
   |none=>none)
  else none
 |_,_=>none
theorem y4b {o:Oper} {S S':St} {f nm:Nat} {σ:CtF} (he:∀t∈o.looksAt ops,S.env t=S'.env t) (hh:S.heap=S'.heap):j4e o S f σ nm=j4e o S' f σ nm:=by
 unfold j4e
 split
 ·rename_i c hg hop
  split
  ·rename_i x hb
   have hx:∀y∈o.op.operands.toList,S.ev y=S'.ev y:=by
    intro y hy
    cases y with
    |tmp t=>exact he t (Qd7 _ (List.mem_filterMap.2 ⟨.tmp t,hy,rfl⟩))
    |_=>rfl
   have h1:S.ev x=S'.ev x:=hx x (by rw[hop];simp[Op.operands,Call.operands,hb])
   have h2:c.args.toList.map S.ev=c.args.toList.map S'.ev:=Qn0 fun y hy=>hx y (by rw[hop];have:=List.mem_map.1 (Qp5 (f:=id) hy);simp[Op.operands,Call.operands,hb];simp_all)
   rw[h1,h2,hh]
  ·rfl
 ·rfl
theorem u5t {L:Array Bool} {wt:List Nat} {c i:Nat} {o:Oper} (hsz:L.size=ops.size) (ho:ops[i]? =some o) (hi:L.getD i true=false) (hp:q9b wt c (i,o)=true):
 ∃l1 l2,(q4k ops L).filter (q9b wt c)=l1++(i,o)::l2∧(q4k ops (L.setIfInBounds i true)).filter (q9b wt c)=l1++l2∧∀x∈l1,x∈q4k ops (L.setIfInBounds i true):=by
 obtain⟨l1,l2,e1,e2⟩:=y5x hsz ho hi
 refine⟨l1.filter (q9b wt c),l2.filter (q9b wt c),?_,?_,fun x hx=>?_⟩
 ·rw[e1,Qe1,Ql0,if_pos hp]
 ·rw[e2,Qe1]
 ·rw[e2];exact Qd7 _ (List.mem_filter.1 hx).1
theorem x5n {rd:Option Nat} {wt:List Nat} {c f:Nat} {oc:Oper} {σ:CtF} {v:Value} {ks:List Nat} (hso:q3v P f σ (pan v)) (hoc:ops[c]? =some oc) (hok:u3t ops wt c oc ks=true)
 (hwt:k8g ops wt=true) (hsmall:ops.size≤1000) (hcx:q1c P cx) (hed:z3h (q2v 0 ops.toList)=true) (hds:q8q n (q2v 0 ops.toList)=true) {Sf:St} {qs:List Prop} {r:AV} {hs0:List (Nat×Option q0d)}
 (hop:j4e oc Sf f σ (1000+c)=some (qs,r,hs0)) (hqs:q3n qs)
 (hQ:∀a W (S:St),(∀i∈ks,S.env i=Sf.env i)→z0o w0 G0 n (fun _=>True) ⟨S.env,q2e Sf.heap hs0⟩ a W→Q (.panic [{v:=v,recovered:=false}]) a W):
 ∀(fuel:Nat) (L:Array Bool) (a:Act) (W:World) (S:St) (ps:List Prop) (R:List Rec),L.size=ops.size→Clo .any ops L→L.getD c true=false→((q4k ops L).filter (q9b wt c)).length<fuel→z0o w0 G0 n (x7v L) S a W→
  q2d cx ops ((q4k ops L).filter (q9b wt c)) S=some (ps,Sf,R)→q4y ops wt R=true→q3n ps→wpAnyIn (FR rd) 3 P .any ops Q fuel L a W:=by
 have hedge:∀i o,ops[i]? =some o→∀e∈o.after,Region.binds .any e=true→e.on<i:=by
  intro i o ho e he hb
  have:=(List.all_eq_true.1 hed) (i,o) (q5g (by simpa using ho))
  have:=Array.all_eq_true_iff_forall_mem.1 this e he
  rw[hb]at this
  simpa using this
 have hcsz:c<ops.size:=(Array.getElem?_eq_some_iff.1 hoc).1
 intro fuel
 induction fuel with
 |zero=>intro L a W S ps R _ _ _ hlen;omega
 |succ fuel ih=>
  intro L a W S ps R hsz hclo hcL hlen hsim hrun hpair hps
  refine⟨fun hr=>?_,fun i hi=>?_⟩
  ·exfalso
   cases hl:q4k ops L with
   |nil=>
    have:(c,oc)∈q4k ops L:=List.mem_filter.2 ⟨q5g (by simpa using hoc),by simp[hcL]⟩
    rw[hl]at this
    cases this
   |cons x l=>
    obtain⟨i,o⟩:=x
    have hx:(i,o)∈q4k ops L:=by rw[hl];exact Qb4
    have hx':=List.mem_filter.1 hx
    have ho:ops[i]? =some o:=by have:=z2f hx'.1;simpa using this
    have hi:L.getD i true=false:=by simpa using hx'.2
    have hin:i∈Region.ready .any ops L:=by
     refine mem_ready.2 ⟨hi,o,ho,fun e he hb=>?_⟩
     have hlt:=hedge i o ho e he hb
     cases hle:L.getD e.on false with
     |true=>rfl
     |false=>
      exfalso
      have hlt2:i<ops.size:=(Array.getElem?_eq_some_iff.1 ho).1
      have hle2:L.getD e.on true=false:=by
       have:e.on<L.size:=by omega
       simpa[Array.getD,this]using hle
      have hmem:(e.on,ops[e.on])∈q4k ops L:=List.mem_filter.2 ⟨q5g (by simp),by simp[hle2]⟩
      have hso:=List.Pairwise.filter (fun x:Nat×Oper=> !L.getD x.1 true) (q7a ops.toList 0).1
      change (q4k ops L).Pairwise _ at hso
      rw[hl]at hso hmem
      rcases List.mem_cons.1 hmem with e'|e'
      ·cases e';omega
      ·have:=(List.pairwise_cons.1 hso).1 _ e'
       simp only at this
       omega
    rw[hr]at hin
    cases hin
  ·obtain⟨hun,o,ho,hall⟩:=mem_ready.1 hi
   have hilt:i<ops.size:=(Array.getElem?_eq_some_iff.1 ho).1
   have hi1000:i<1000:=Qc2 hilt hsmall
   have hfresh:∀r,q1i (1000+i) r=true→¬x7v L r:=by
    intro r hr
    rintro(h|⟨j,hj1,hj,h⟩)
    ·have:=q9f hr;omega
    ·have:=q6s hj1 hi1000 h hr
     subst this
     rw[q1m hun]at hj
     cases hj
   have hc2:=hclo.set_ hi
   have hili:(L.setIfInBounds i true).getD i false=true:=by
    have:i<L.size:=by rw[hsz];exact hilt
    simp[Array.getD,this]
   have hwaits:∀j,j≠i→y4n wt j i=true→L.getD j false=true:=by
    intro j hj hw
    have:=q4b hc2 ops.size i (j6u hwt ops.size i hilt hw) hili
    rwa [q1d (Ne.symm hj)]at this
   by_cases hic:i=c
   ·subst hic
    rw[hoc]at ho
    cases ho
    have hrem:∀x∈(q4k ops L).filter (q9b wt i),y4n wt x.1 i=false∧(x.1,x.2)∈q2v 0 ops.toList∧q9b wt i x=true:=by
     intro x hx
     obtain⟨h1,h2⟩:=List.mem_filter.1 hx
     obtain⟨h3,h4⟩:=List.mem_filter.1 h1
     refine⟨?_,h3,h2⟩
     cases hw:y4n wt x.1 i with
     |false=>rfl
     |true=>
      have hne:x.1≠i:=by
       intro e
       simp only[q9b,Qa2,Qd1]at h2
       rw[e,q6x]at h2
       cases h2.1
      have h5:=hwaits x.1 hne hw
      have h6:L.getD x.1 true=false:=by simpa using h4
      rw[q1m h6]at h5
      cases h5
    have hpk:∀x∈(q4k ops L).filter (q9b wt i),y2f x.2=true∧∀d,x.2.dst=some d→d∉ks∧d∉oc.looksAt ops:=by
     intro x hx
     obtain⟨h1,h2,h3⟩:=hrem x hx
     have h4:=(List.all_eq_true.1 hok) x h2
     rw[h3,h1]at h4
     simp only[Qm1,Qm2,Qa2,Bool.or_false]at h4
     refine⟨h4.2,fun d hd=>?_⟩
     have h5:=h4.1
     rw[hd]at h5
     simp only[Qa2,Qd1]at h5
     exact⟨fun h=>(by rw[q1v.2 h]at h5;cases h5.1),fun h=>(by rw[q1v.2 h]at h5;cases h5.2)⟩
    have hheap:=y1e (fun x hx=>(hpk x hx).1) hrun
    have hlook:∀t∈oc.looksAt ops,Sf.env t=S.env t:=fun t ht=>q9o hrun fun x hx e=>((hpk x hx).2 t e).2 ht
    rw[y4b (ops:=ops) hlook hheap]at hop
    unfold wpOpIn
    rw[hoc]
    refine z9n (U:=x7v L) hso hsim hop hqs hfresh (fun W' hs'=>hQ a W' S (fun j hj=>(q9o hrun fun x hx e=>((hpk x hx).2 j e).1 hj).symm) ?_) _
    rw[hheap]
    exact hs'
   ·have hpre:q9b wt c (i,o)=true:=by
     simp only[q9b,Qa2,Qd1]
     refine⟨q4x hic,?_⟩
     cases hw:y4n wt c i with
     |false=>rfl
     |true=>
      have:=hwaits c (fun e=>hic e.symm) hw
      rw[q1m hcL]at this
      cases this
    obtain⟨l1,l2,e1,e2,e3⟩:=u5t hsz ho hun hpre
    rw[e1]at hrun
    have hw:∀x∈l1,q8d .any ops x.1 ops.size i=false:=by
     intro x hx
     cases hwx:q8d .any ops x.1 ops.size i with
     |false=>rfl
     |true=>
      exfalso
      have:=q4b hc2 ops.size i hwx hili
      have:=(List.mem_filter.1 (e3 x hx)).2
      have hh:(L.setIfInBounds i true).getD x.1 true=false:=by simpa using this
      have:=q1m hh
      simp_all
    obtain⟨p,v',hs,ps',R',g1,g2,g3,g4,g5,_,_⟩:=z9v hwt hilt hrun hpair hw hps
    have hdi:∀k,o.dst=some k→k<n:=by
     intro k hk
     have:=(List.all_eq_true.1 hds) (i,o) (q5g (by simpa using ho))
     simp only[hk]at this
     simpa using this
    unfold wpOpIn
    rw[ho]
    have hstep:=q9p (rd:=rd) (K:=wpAnyIn (FR rd) 3 P .any ops Q fuel (L.setIfInBounds i true)) (Q:=Q) hcx hsim g1 g2 hfresh hdi (fun a' W' hs'=>by
     refine ih (L.setIfInBounds i true) a' W' _ ps' R' (by simpa using hsz) hc2 (by rw[q1d hic];exact hcL) ?_ (hs'.weaken ?_) (by rw[e2];exact g3) g5 g4
     ·rw[e1]at hlen
      rw[e2]
      simp at hlen⊢
      omega
     ·rintro r (h|h)
      ·rcases h with h|⟨j,hj1,hj,h⟩
       ·exact .inl h
       ·refine .inr ⟨j,hj1,?_,h⟩
        by_cases hji:i=j
        ·subst hji
         rw[q1m hun]at hj
         cases hj
        ·rw[q1d hji];exact hj
      ·exact .inr ⟨i,hi1000,hili,h⟩)
    exact hstep
theorem x5b {rd:Option Nat} {f c:Nat} {oc:Oper} {post:List Oper} {σ:CtF} {v:Value} (hso:q3v P f σ (pan v)) (hcx:q1c P cx) {Sf:St} {qs:List Prop} {r:AV} {hs0:List (Nat×Option q0d)}
 (hop:j4e oc Sf f σ (1000+c)=some (qs,r,hs0)) (hqs:q3n qs)
 (hQ:∀a W,z0o w0 G0 n (fun _=>True) ⟨Sf.env,q2e Sf.heap hs0⟩ a W→Q (.panic [{v:=v,recovered:=false}]) a W):
 ∀(l:List Oper) (k:Nat) (a:Act) (W:World) (S:St) (ps:List Prop),q8q n (q2v k l)=true→z0o w0 G0 n (fun r=>r<1000∨∃i,i<k∧q1i (1000+i) r=true) S a W→k+l.length=c→c<1000→x5k cx ops (q2v k l) S=some (ps,Sf)→q3n ps→
  wpListIn (FR rd) 3 P ops Q (l++oc::post) a W:=by
 intro l
 induction l with
 |nil=>
  intro k a W S ps _ hsim hk hc hrun _
  simp only[q2v,x5k,Option.some.injEq,Prod.mk.injEq]at hrun
  obtain⟨_,rfl⟩:=hrun
  simp only[Qb5,Qd9]at hk
  subst hk
  rw[Qg8]
  unfold wpListIn
  exact z9n hso hsim hop hqs (fun r hr hu=>by
   rcases hu with hu|⟨i,hi,hu⟩
   ·have:=q9f hr;omega
   ·have:=q6s (by omega) (by omega) hu hr;omega) (fun W' hs'=>hQ a W' hs') _
 |cons o l ih=>
  intro k a W S ps hds hsim hk hc hrun hps
  simp only[q2v,x5k]at hrun
  cases hs:q1f cx ops (1000+k) o S with
  |none=>rw[hs]at hrun;cases hrun
  |some t=>
   obtain⟨p,v',hs'⟩:=t
   rw[hs]at hrun
   simp only at hrun
   cases hr2:x5k cx ops (q2v (k+1) l) (S.put o.dst v' hs')with
   |none=>rw[hr2]at hrun;cases hrun
   |some t2=>
    obtain⟨q,S'⟩:=t2
    rw[hr2]at hrun
    simp only[Option.some.injEq,Prod.mk.injEq]at hrun
    obtain⟨rfl,rfl⟩:=hrun
    rw[q1w]at hps
    simp only[q2v,q8q,Qj8,Qa2]at hds
    have hdi:∀d,o.dst=some d→d<n:=by
     intro d hd
     have:=hds.1
     simp only[hd]at this
     simpa using this
    have hstep:=q9p (rd:=rd) (K:=wpListIn (FR rd) 3 P ops Q (l++oc::post)) (Q:=Q) hcx hsim hs hps.1 (fun r hr hu=>by
     simp only[Qa8]at hk
     rcases hu with hu|⟨i,hi,hu⟩
     ·have:=q9f hr;omega
     ·have:=q6s (by omega) (by omega) hu hr;omega) hdi (fun a' W' hs'=>ih (k+1) a' W' _ q hds.2 (hs'.weaken fun r hr=>by
      rcases hr with(h|⟨i,hi,h⟩)|h
      ·exact .inl h
      ·exact .inr ⟨i,by omega,h⟩
      ·exact .inr ⟨k,by omega,h⟩) (by simp only[Qa8]at hk;omega) hc hr2 hps.2)
    rw[Qc9]
    unfold wpListIn
    exact hstep
end
def y5v (cx:Cx) (ops:Array Oper) (m n c f:Nat) (σ:CtF) (ρ:List (Nat×RM)) (ks:List Nat) (E:Env) (H:Hp):Option (List Prop×Env×Hp):=
 match ops.toList.drop c,x5k cx ops (q2v 0 (ops.toList.take c)) (q5i E H)with
 |oc::_,some (ps,Sf)=>
  bif q8q n (q2v 0 (ops.toList.take c))&&Nat.blt c 1000&&Nat.ble c ops.toList.length then
   (match j4e oc Sf f σ (1000+c)with
   |some (qs,_,hs)=>bif z0j m ρ&&q8a ρ (q2e Sf.heap hs)then some (ps++qs,q4d ρ ⟨Sf.env,q2e Sf.heap hs⟩ ks,q1y ρ (q2e Sf.heap hs) ρ)else none
   |none=>none)
  else none
 |_,_=>none
section
variable {k:Ct} {E E':Env} {H H':Hp} {Q:Exit→Act→World→Prop} {ops:Array Oper} {id:Nat}
theorem k4q {f:Nat} {σ:CtF} {v:Value} (c:Nat) (ρ:List (Nat×RM)) (ks:List Nat) {ps:List Prop} (hcx:q1c k.P k.cx) (hso:q3v k.P f σ (pan v)) (h:y5v k.cx ops k.w0.m k.n c f σ ρ ks E H=some (ps,E',H')) (hp:q3n ps)
 (hf:Fin k E' H' Q (.panic [{v:=v,recovered:=false}])):Tri k E H (.region id ops false) Q:=by
 intro a W hs
 unfold y5v at h
 split at h
 ·rename_i oc post ps' Sf hdrop hr
  cases hb:(q8q k.n (q2v 0 (ops.toList.take c))&&Nat.blt c 1000&&Nat.ble c ops.toList.length)with
  |false=>rw[hb]at h;cases h
  |true=>
   rw[hb]at h
   simp only[cond_true]at h
   split at h
   ·rename_i qs r hs0 hop
    cases hb2:(z0j k.w0.m ρ&&q8a ρ (q2e Sf.heap hs0))with
    |false=>rw[hb2]at h;cases h
    |true=>
     rw[hb2]at h
     simp only[cond_true,Option.some.injEq,Prod.mk.injEq]at h
     obtain⟨rfl,rfl,rfl⟩:=h
     rw[q1w]at hp
     simp only[Qa2]at hb hb2
     have hc1:c<1000:=by simpa using hb.1.2
     have hc2:=Qc3 hb.2
     have e:ops.toList=ops.toList.take c++oc::post:=by rw[←hdrop,Qi0]
     refine wpIn_region_list ?_
     rw[e]
     exact x5b hso hcx hop hp.2 (fun a W hsim=>hf a W (z0o.ren (S:=⟨Sf.env,q2e Sf.heap hs0⟩) hsim hs.m_le hb2.1 hb2.2 ks)) _ 0 a W _ ps' hb.1.1 (hs.weaken fun _ h=>.inl h.1) (by rw[Qd0];omega) hc1 hr hp.1
   ·cases h
 ·cases h
theorem k6p {f:Nat} {σ:CtF} {v:Value} (c:Nat) (wt:List Nat) (ρ:List (Nat×RM)) (ks:List Nat) {ps:List Prop} (hcx:q1c k.P k.cx) (hmx:k.P.follows .mixedOrders=true) (hso:q3v k.P f σ (pan v))
 (h:x7c k.cx ops wt k.w0.m k.n c f σ ρ ks E H=some (ps,E',H')) (hp:q3n ps) (hf:Fin k E' H' Q (.panic [{v:=v,recovered:=false}])):Tri k E H (.region id ops true) Q:=by
 intro a W hs
 unfold x7c at h
 split at h
 ·rename_i oc ps' Sf R hoc hr
  cases hb:((q8q k.n (q2v 0 ops.toList)&&(z3h (q2v 0 ops.toList)&&(k8g ops wt&&q4y ops wt R)))&&(u3t ops wt c oc ks&&Nat.ble ops.size 1000))with
  |false=>rw[hb]at h;cases h
  |true=>
   rw[hb]at h
   simp only[cond_true]at h
   split at h
   ·rename_i qs r hs0 hop
    cases hb2:(z0j k.w0.m ρ&&q8a ρ (q2e Sf.heap hs0))with
    |false=>rw[hb2]at h;cases h
    |true=>
     rw[hb2]at h
     simp only[cond_true,Option.some.injEq,Prod.mk.injEq]at h
     obtain⟨rfl,rfl,rfl⟩:=h
     rw[q1w]at hp
     simp only[Qa2]at hb hb2
     obtain⟨⟨h1,h3,hwt,h4⟩,hok,h1000⟩:=hb
     have hrem:q4k ops (Array.replicate ops.size false)=q2v 0 ops.toList:=by
      unfold q4k
      refine List.filter_eq_self.2 fun x hx=>?_
      have:=z2f hx
      have hlt:x.1<ops.size:=by
       have:=(List.getElem?_eq_some_iff.1 this).1
       simpa using this
      simp[Array.getD,hlt]
     have hlen:∀(l:List Oper) (j:Nat),(q2v j l).length=l.length:=by
      intro l
      induction l with
      |nil=>intro j;rfl
      |cons x l ih=>intro j;simp[q2v,ih]
     have hcsz:c<ops.size:=(Array.getElem?_eq_some_iff.1 hoc).1
     refine wpIn_region_any hmx (x5n hso hoc hok hwt (Qc3 h1000) hcx h3 h1 hop hp.2 (fun a W S hS hsim=>hf a W ?_) ops.size _ a _ _ ps' R (by simp) ?_ (by simp[Array.getD,hcsz]) ?_ (hs.drew.weaken ?_) (by rw[hrem];exact hr) h4 hp.1)
     ·rw[←z4n (S:=⟨S.env,q2e Sf.heap hs0⟩) (S':=⟨Sf.env,q2e Sf.heap hs0⟩) rfl hS]
      exact z0o.ren (S:=⟨S.env,q2e Sf.heap hs0⟩) hsim hs.m_le hb2.1 hb2.2 ks
     ·intro j o hj hl
      simp[Array.getD]at hl
     ·rw[hrem]
      have h9:((q2v 0 ops.toList).filter (q9b wt c)).length<(q2v 0 ops.toList).length:=by
       rw[List.length_filter_lt_length_iff_exists]
       exact⟨(c,oc),q5g (by simpa using hoc),by simp[q9b]⟩
      rw[hlen]at h9
      simpa using h9
     ·intro r hr
      exact .inl hr.1
   ·cases h
 ·cases h
end
structure Lat (w0 wB:Base) (G0 GB:Nat→Prop):Prop where
 sz:w0.w.heap.size≤wB.w.heap.size
 O:∀b,wB.O b→w0.mine b
 G:∀b,GB b→G0 b∨w0.mine b
 bel:Kp w0.O w0.w wB.w
 m:w0.m=0
theorem Lat.mine {w0 wB:Base} {G0 GB:Nat→Prop} (h:Lat w0 wB G0 GB) {b:Nat} (hb:wB.mine b):w0.mine b:=by
 rcases hb with hb|hb
 ·exact .inl (Qc0 h.sz hb)
 ·exact h.O b hb
theorem Lat.mok {w0 wB:Base} {G0 GB:Nat→Prop} {g:Gh} {Hf:Nat→Option q0d} (h:Lat w0 wB G0 GB) (hm:MOk wB GB g Hf):MOk w0 G0 g Hf:=
 ⟨hm.ok,hm.sep,fun r o b hr hb=>⟨(hm.own r o b hr hb).1,h.mine (hm.own r o b hr hb).2⟩,fun b hb=>⟨(hm.gb b hb).1,by
  rcases(hm.gb b hb).2 with q|q
  ·exact h.G b q
  ·exact .inr (h.mine q)⟩,
  ⟨hm.bel.os.trans h.bel.os,hm.bel.tape.trans h.bel.tape,hm.bel.output.trans h.bel.output,Qc0 h.bel.size hm.bel.size,fun b hb hno=>(hm.bel.block b (Qc2 hb h.sz) (fun ho=>by
   rcases h.O b ho with q|q
   ·exact absurd hb (Nat.not_lt.2 q)
   ·exact hno q)).trans (h.bel.block b hb hno)⟩,
  ⟨fun r hr=>by rw[h.m]at hr;omega,hm.anc.2⟩⟩
theorem x8k {k:Ct} {E:Env} {H:Hp} {a:Act} {W:World} (hs:Sim k E H a W) (hm0:k.w0.m=0) (M:Nat) (hM:∀r,r<M→(look r H).isSome=true) (a':Act) (ds:List Deferred) (hsz:a'.tmps.size=k.n) (hds:a'.defers=ds)
 (ht:∀i x,look i E=some x→a'.tmps.getD i undef=a.tmps.getD i undef):∃O β GB,Lat k.w0 ⟨W,O,M,β,ds⟩ k.G0 GB∧Sim ⟨k.P,k.cx,⟨W,O,M,β,ds⟩,GB,k.n,k.rnd⟩ E H a' W∧∀i r,look i E=some (.loc r 0)→a.tmps.getD i undef=β r:=by
 obtain⟨_,_,g,rfl,hU,hm,henv⟩:=hs
 refine⟨fun b=>∃r o,look r H=some o∧q1k (g.β r)=some b,g.β,g.G,⟨hm.bel.size,?_,fun b hb=>(hm.gb b hb).2,hm.bel,hm0⟩,⟨hsz,hds,g,rfl,fun r hr=>⟨(hU r hr).1,.inr ?_⟩,⟨hm.ok,hm.sep,fun r o b hr hb=>⟨(hm.own r o b hr hb).1,.inr ⟨r,o,hr,hb⟩⟩,fun b hb=>⟨(hm.gb b hb).1,.inl hb⟩,Kp.refl _ _,fun r hr=>⟨?_,rfl⟩,hm.anc.2⟩,fun i=>?_⟩,fun i r hi=>?_⟩
 ·rintro b ⟨r,o,hr,hb⟩
  exact(hm.own r o b hr hb).2
 ·rcases(hU r hr).2 with h|h
  ·rw[hm0]at h;omega
  ·exact h
 ·obtain⟨o,ho⟩:=Option.isSome_iff_exists.1 (hM r hr)
  exact(hm.ok r o ho).1
 ·have h1:=henv i
  show Den g (q1t E i) _
  change Den g (q1t E i) _ at h1
  unfold q1t at h1⊢
  cases hl:look i E with
  |none=>trivial
  |some x=>
   rw[hl]at h1
   rw[ht i x hl]
   exact h1
 ·have h1:=henv i
  change Den g (q1t E i) _ at h1
  unfold q1t at h1
  rw[hi]at h1
  simp only[Den]at h1
  obtain⟨_,b,h2,h3⟩:=h1
  rw[h3,h2]
theorem k4n {w0 wB:Base} {G0 GB:Nat→Prop} {r:AV} {outs:List (Option q0d)} (h:Lat w0 wB G0 GB) {ds:List Deferred} (e:Ending) (W:World) (hp:Post {wB with ds:=ds} GB r outs e W):Post w0 G0 r outs e W:=by
 obtain⟨u,g',h1,h2,h3,h4⟩:=hp
 exact⟨u,g',h1,h2,h.mok (MOk.base.1 h3),h4⟩
def Ct.un (k:Ct):Ct:=⟨k.P,k.cx,{k.w0 with ds:=[]},k.G0,k.n,k.rnd⟩
theorem u1u {k:Ct} {E:Env} {H:Hp} {fn:Func} {r:AV} {w0:Base} {G0:Nat→Prop} {f:Nat} {vs:Array Value} (hl:Lat w0 k.w0 G0 k.G0) (hds:k.w0.ds=[⟨.fn (.func f) vs,#[]⟩]) (hin:∀args W,(callFunc f args).run k.P W=.ok (.enter f args) W)
 (hidle:∀W n,CallsDIn (FR none) n k.P f vs .returning W fun e u' w'=>e=.returned (.tuple #[])∧u'=.returning∧w'=W)
 (h:Fin k.un E H (bodyPostM (FR none) 3 k.P fn (Post k.un.w0 k.G0 r [])) .ret):Fin k E H (bodyPostM (FR none) 3 k.P fn (Post w0 G0 r [])) .ret:=by
 intro a W hs
 obtain⟨h1,h2,g,h3,h4,h5,h6⟩:=hs
 have h7:=h {a with defers:=[]} W ⟨h1,rfl,g,h3,h4,MOk.base.1 h5,h6⟩
 show LeavesInM (FR none) 3 k.P fn a.tmps _ a.defers .returning W
 rw[h2,hds]
 refine⟨by simp,.inr ⟨fun hd=>(by cases hd),_,_,f,vs,rfl,by simp[invoke,hin],fun _ _=>trivial,(hidle W _).mono ?_⟩⟩
 rintro e u' w' ⟨rfl,rfl,rfl⟩
 exact q2u (fun e w hp=>k4n hl e w hp) [] _ _ h7
abbrev CtB:=List AV→List q0d→Option (Prop×Prop×AV×List (Option q0d))
def nrm (σ:CtB):CtF:=fun args os=>match σ args os with|some (p,fit,r,outs)=>some (p∧fit,r,outs)|none=>none
def pnk (σ:CtB):CtF:=fun args os=>match σ args os with|some (p,fit,_,outs)=>some (p∧¬fit,.any,outs.map fun _=>none)|none=>none
theorem j5v {σ:CtB} {args:List AV} {os:List q0d} {p:Prop} {r:AV} {outs:List (Option q0d)} (h:nrm σ args os=some (p,r,outs)):∃p' fit,σ args os=some (p',fit,r,outs)∧(p→p'∧fit):=by
 simp only[nrm]at h
 cases hs:σ args os with
 |none=>rw[hs]at h;cases h
 |some x=>obtain⟨p',fit,r',outs'⟩:=x;rw[hs]at h;cases h;exact⟨_,_,rfl,id⟩
theorem j6z {σ:CtB} {args:List AV} {os:List q0d} {p:Prop} {r:AV} {outs:List (Option q0d)} (h:pnk σ args os=some (p,r,outs)):∃p' fit r' outs',σ args os=some (p',fit,r',outs')∧(p→p'∧¬fit)∧r=.any∧outs=outs'.map fun _=>none:=by
 simp only[pnk]at h
 cases hs:σ args os with
 |none=>rw[hs]at h;cases h
 |some x=>obtain⟨p',fit,r',outs'⟩:=x;rw[hs]at h;cases h;exact⟨_,_,_,_,rfl,id,rfl,rfl⟩
def u3a (v:Value) (w0:Base) (G0:Nat→Prop) (fit:Prop) (r:AV) (outs:List (Option q0d)) (e:Ending) (W:World):Prop:=
 (fit→Post w0 G0 r outs e W)∧(¬fit→u1x (pan v) w0 G0 .any (outs.map fun _=>none) e W)
theorem SwB {P:Program} {cx:Cx} {f:Nat} {v:Value} (fn:Func) {c:Code} (σ:CtB) (hf:P.funcs[f]? =some fn)
 (h:∀wW wO wβ G0 args os p fit r outs,σ args os=some (p,fit,r,outs)→p→(Nat.ble args.length fn.ntmps&&Nat.ble os.length 1000)=true∧Tg ⟨P,cx,⟨wW,wO,os.length,wβ,[]⟩,G0,fn.ntmps,none⟩ (q2v 0 args,q2v 0 os) c (bodyPostM (FR none) 3 P fn (u3a v ⟨wW,wO,os.length,wβ,[]⟩ G0 fit r outs)))
 (hname : (fn.name == "runtime.NumGoroutine") = false := by kernel_rfl) (hb : fn.body = some c := by rfl) : q0c P f (nrm σ) ∧ q3v P f (pnk σ) (pan v) := by
 refine⟨y8q (cx:=cx) hf hname hb fun w0 G0 args os p r outs hσ hp hm hd=>?_,z7w (cx:=cx) hf hname hb fun w0 G0 args os p r outs hσ hp hm hd=>?_⟩
 all_goals
  obtain⟨wW,wO,wm,wβ,wd⟩:=w0
  replace hm:wm=os.length:=hm
  replace hd:wd=[]:=hd
  subst hm hd
 ·obtain⟨p',fit,hs,hp'⟩:=j5v hσ
  obtain⟨h1,h2⟩:=h wW wO wβ G0 args os p' fit r outs hs (hp' hp).1
  exact⟨h1,fun a W hS=>wpIn_mono (h2 a W hS) fun e a w hq=>z3v (fun e w q=>q.1 (hp' hp).2) e a w hq⟩
 ·obtain⟨p',fit,r',outs',hs,hp',rfl,rfl⟩:=j6z hσ
  obtain⟨h1,h2⟩:=h wW wO wβ G0 args os p' fit r' outs' hs (hp' hp).1
  exact⟨h1,fun a W hS=>wpIn_mono (h2 a W hS) fun e a w hq=>z3v (fun e w q=>q.2 (hp' hp).2) e a w hq⟩
theorem j7l {P : Program} {f : Nat} {fn : Func} {c : Code} {v : Value} {σ : Nat → CtB} (hf : P.funcs[f]? = some fn) (hname : (fn.name == "runtime.NumGoroutine") = false) (hb : fn.body = some c) (h0 : ∀ args os p fit r outs, σ 0 args os = some (p, fit, r, outs) → p → False)
 (h:∀n,q0c P f (nrm (σ n))→q3v P f (pnk (σ n)) (pan v)→q0c P f (nrm (σ (n+1)))∧q3v P f (pnk (σ (n+1))) (pan v)):∀n,q0c P f (nrm (σ n))∧q3v P f (pnk (σ n)) (pan v)
 |0=>by
  refine⟨⟨fun args W=>q0r hf hname hb args W,fun g args os vs p r outs hσ hp=>?_⟩,⟨fun args W=>q0r hf hname hb args W,fun g args os vs p r outs hσ hp=>?_⟩⟩
  ·obtain⟨p',fit,hs,hp'⟩:=j5v hσ
   exact(h0 _ _ _ _ _ _ hs (hp' hp).1).elim
  ·obtain⟨p',fit,r',outs',hs,hp',_⟩:=j6z hσ
   exact(h0 _ _ _ _ _ _ hs (hp' hp).1).elim
 |n+1=>h n (j7l hf hname hb h0 h n).1 (j7l hf hname hb h0 h n).2
theorem k8c {P:Program} {f:Nat} {v:Value} {σ:Nat→CtB} {τ:CtB} (h:∀n,q0c P f (nrm (σ n))∧q3v P f (pnk (σ n)) (pan v)) (hτ:∀args os p fit r outs,τ args os=some (p,fit,r,outs)→p→∃n q,σ n args os=some (q,fit,r,outs)∧q):q0c P f (nrm τ)∧q3v P f (pnk τ) (pan v):=by
 refine⟨⟨(h 0).1.1,fun g args os vs p r outs hσ hp=>?_⟩,⟨(h 0).2.1,fun g args os vs p r outs hσ hp=>?_⟩⟩
 ·obtain⟨p',fit,hs,hp'⟩:=j5v hσ
  obtain⟨n,q,h1,h2⟩:=hτ _ _ _ _ _ _ hs (hp' hp).1
  exact(h n).1.2 g args os vs (q∧fit) r outs (by simp only[nrm,h1]) ⟨h2,(hp' hp).2⟩
 ·obtain⟨p',fit,r',outs',hs,hp',rfl,rfl⟩:=j6z hσ
  obtain⟨n,q,h1,h2⟩:=hτ _ _ _ _ _ _ hs (hp' hp).1
  exact(h n).2.2 g args os vs (q∧¬fit) .any _ (by simp only[pnk,h1]) ⟨h2,(hp' hp).2⟩
section
variable {k:Ct} {S:Env×Hp} {Q:Exit→Act→World→Prop} {ops:Array Oper} {id:Nat} {c:Code}
theorem Kz (p:Prop) [Decidable p] (h1:p→Tg k S c Q) (h2:¬p→Tg k S c Q):Tg k S c Q:=by
 by_cases h:p
 ·exact h1 h
 ·exact h2 h
theorem Pl {f:Nat} {σ:CtF} {v:Value} (c:Nat) (ρ:List (Nat×RM)) (ks:List Nat) (ps:List Prop) (hcx:q1c k.P k.cx) (hso:q3v k.P f σ (pan v)) (hp:q3n ps) {E':Env} {H':Hp} (hf:Fin k E' H' Q (.panic [{v:=v,recovered:=false}])) (h:y5v k.cx ops k.w0.m k.n c f σ ρ ks S.1 S.2=some (ps,E',H'):=by kernel_rfl):Tg k S (.region id ops false) Q:=k4q c ρ ks hcx hso h hp hf
theorem Pd {f:Nat} {σ:CtF} {v:Value} (c:Nat) (wt:List Nat) (ρ:List (Nat×RM)) (ks:List Nat) (ps:List Prop) (hcx:q1c k.P k.cx) (hmx:k.P.follows .mixedOrders=true) (hso:q3v k.P f σ (pan v)) (hp:q3n ps) {E':Env} {H':Hp} (hf:Fin k E' H' Q (.panic [{v:=v,recovered:=false}])) (h:x7c k.cx ops wt k.w0.m k.n c f σ ρ ks S.1 S.2=some (ps,E',H'):=by kernel_rfl):Tg k S (.region id ops true) Q:=k6p c wt ρ ks hcx hmx hso h hp hf
theorem Rb {fn:Func} {v:Value} {fit:Prop} {r:AV} {outs:List (Option q0d)} (hfit:fit) (h:Fg k S (bodyPostM (FR none) 3 k.P fn (Post k.w0 k.G0 r outs)) .ret):Fg k S (bodyPostM (FR none) 3 k.P fn (u3a v k.w0 k.G0 fit r outs)) .ret:=
 fun a W hs=>z3v (fun e w q=>⟨fun _=>q,fun hn=>absurd hfit hn⟩) _ a W (h a W hs)
theorem Sim.bare {E:Env} {H:Hp} {a a':Act} {W:World} (hs:Sim k E H a W) (hsz:a'.tmps.size=a.tmps.size) (hd:a'.defers=a.defers):Sim k [] [] a' W:=by
 obtain⟨h1,h2,g,rfl,hU,hm,_⟩:=hs
 exact⟨hsz.trans h1,hd.trans h2,⟨g.W,g.G,g.β,fun r=>g.U r∧r<k.w0.m⟩,rfl,fun r hr=>⟨(hU r hr.1).1,.inl hr.2⟩,⟨fun r o h=>(by cases h),fun r r' o o' b h=>(by cases h),fun r o b h=>(by cases h),hm.gb,hm.bel,fun r hr=>⟨⟨(hm.anc.1 r hr).1,hr⟩,(hm.anc.1 r hr).2⟩,hm.anc.2⟩,fun i=>trivial⟩
theorem y9c {E:Env} {H:Hp} {fn:Func} {v:Value} {outs:List (Option q0d)} {R:Ending→World→Prop} (hds:k.w0.ds=[]) (hR:∀e W,u1x (pan v) k.w0 k.G0 .any (outs.map fun _=>none) e W→R e W):Fin k E H (bodyPostM (FR none) 3 k.P fn R) (.panic [{v:=v,recovered:=false}]):=by
 rintro a W ⟨_,hdf,g,rfl,_,hm,_⟩
 show LeavesInM (FR none) 3 k.P fn a.tmps _ a.defers (.panicking _) g.W
 rw[hdf,hds]
 refine hR _ _ ⟨undef,g,rfl,rfl,?_,trivial⟩
 have hno:∀r o,q3s (outs.map fun _=>none) r=some o→False:=fun r o h=>by
  unfold q3s at h
  rw[Qg6]at h
  cases hh:outs[r]? <;>rw[hh]at h<;>cases h
 exact⟨fun r o h=>(hno r o h).elim,fun r r' o o' b h=>(hno r o h).elim,fun r o b h=>(hno r o h).elim,hm.gb,hm.bel,hm.anc⟩
theorem Pf {E:Env} {H:Hp} {fn:Func} {v:Value} {fit:Prop} {r:AV} {outs:List (Option q0d)} (hno:¬fit) (hds:k.w0.ds=[]:=by rfl):Fin k E H (bodyPostM (FR none) 3 k.P fn (u3a v k.w0 k.G0 fit r outs)) (.panic [{v:=v,recovered:=false}]):=
 y9c hds fun e W q=>⟨fun h=>absurd h hno,fun _=>q⟩
end
theorem Sim.acts {k:Ct} {E E':Env} {H:Hp} {a a':Act} {W:World} (hs:Sim k E H a W) (hsz:a'.tmps.size=a.tmps.size) (hd:a'.defers=a.defers) (hi:∀i x,look i E'=some x→q1t E i=x∧a'.tmps.getD i undef=a.tmps.getD i undef):Sim k E' H a' W:=by
 obtain⟨h1,h2,g,h3,h4,h5,h6⟩:=hs
 refine⟨hsz.trans h1,hd.trans h2,g,h3,h4,h5,fun i=>?_⟩
 show Den g (q1t E' i) _
 unfold q1t
 cases hl:look i E' with
 |none=>trivial
 |some x=>
  obtain⟨q1,q2⟩:=hi i x hl
  rw[q2,←q1]
  exact h6 i
theorem Sim.int {k:Ct} {S:Env×Hp} {a:Act} {W:World} (hs:Sim k S.1 S.2 a W) (i:Nat) {n:Int} (h:q1t S.1 i=.im (.val (.int .i64 n)):=by kernel_rfl):a.tmps.getD i undef=.int .i64 n:=by
 obtain⟨_,_,g,_,_,_,h6⟩:=hs
 have:=h6 i
 change Den g (q1t S.1 i) _ at this
 rw[h]at this
 exact q0b this
theorem v2x {wW:World} {wO:Nat→Prop} {m:Nat} {wβ:Nat→Value} {ds:List Deferred} {G0:Nat→Prop} {g:Gh} {x0 x1 x2 y0 y1 y2:List AV} (hm:MOk ⟨wW,wO,m,wβ,ds⟩ G0 g (q5i [] [(0,.box x0),(1,.box x1),(2,.box x2)]).heap) (h3:3≤m)
 (h0:∀vs,q0e g x0 vs→q0e ⟨g.W,g.G,g.β,fun r=>r<3⟩ y0 vs) (h1:∀vs,q0e g x1 vs→q0e ⟨g.W,g.G,g.β,fun r=>r<3⟩ y1 vs) (h2:∀vs,q0e g x2 vs→q0e ⟨g.W,g.G,g.β,fun r=>r<3⟩ y2 vs):
 MOk ⟨wW,wO,3,wβ,[]⟩ G0 ⟨g.W,g.G,g.β,fun r=>r<3⟩ (q5i [] [(0,.box y0),(1,.box y1),(2,.box y2)]).heap:=by
 have key:∀r o,(q5i [] [(0,.box y0),(1,.box y1),(2,.box y2)]).heap r=some o→r<3∧z2a ⟨g.W,g.G,g.β,fun r=>r<3⟩ (g.β r) o∧∃o',(q5i [] [(0,.box x0),(1,.box x1),(2,.box x2)]).heap r=some o':=by
  intro r o hr
  rcases(by omega:r=0∨r=1∨r=2∨(r≠0∧r≠1∧r≠2))with rfl|rfl|rfl|⟨n0,n1,n2⟩
  ·cases hr
   obtain⟨_,b,t,arr,q1,q2,q3⟩:=hm.ok 0 (.box x0) rfl
   exact⟨by omega,⟨b,t,arr,q1,q2,h0 _ q3⟩,_,rfl⟩
  ·cases hr
   obtain⟨_,b,t,arr,q1,q2,q3⟩:=hm.ok 1 (.box x1) rfl
   exact⟨by omega,⟨b,t,arr,q1,q2,h1 _ q3⟩,_,rfl⟩
  ·cases hr
   obtain⟨_,b,t,arr,q1,q2,q3⟩:=hm.ok 2 (.box x2) rfl
   exact⟨by omega,⟨b,t,arr,q1,q2,h2 _ q3⟩,_,rfl⟩
  ·have:(q5i [] [(0,q0d.box y0),(1,.box y1),(2,.box y2)]).heap r=none:=by
    show look r _=none
    rw[q1a,if_neg n0,q1a,if_neg n1,q1a,if_neg n2]
    rfl
   rw[this]at hr
   cases hr
 refine⟨fun r o hr=>⟨(key r o hr).1,(key r o hr).2.1⟩,fun r r' o o' b hr hr'=>?_,fun r o b hr=>?_,hm.gb,hm.bel,fun r hr=>⟨hr,(hm.anc.1 r (Qc2 hr h3)).2⟩,hm.anc.2⟩
 ·obtain⟨q,hq⟩:=(key r o hr).2.2
  obtain⟨q',hq'⟩:=(key r' o' hr').2.2
  exact hm.sep r r' q q' b hq hq'
 ·obtain⟨q,hq⟩:=(key r o hr).2.2
  exact hm.own r q b hq
theorem j9e {g g':Gh} {x:AV} (vs:List Value) (h:q0e g [x] vs):q0e g' [.any] vs:=by obtain⟨v,rfl,_⟩:=q4w h;exact⟨_,_,rfl,trivial,rfl⟩
theorem x7s {g g':Gh} {x y:AV} (vs:List Value) (h:q0e g [x,y] vs):q0e g' [.any,.any] vs:=by obtain⟨v,u,rfl,_⟩:=q4u h;exact⟨_,_,rfl,trivial,_,_,rfl,trivial,rfl⟩
end Go.Proofs.YteikjpbbhopkaaaGreatDoor.En
namespace Go.Proofs.YteikjpbbhopkaaaGreatDoor.En
open Go
def j0e (n:Nat) (m:Int):List Bool:=false::(List.range n).map fun i=>x6y (m/2^i) 1==1
theorem q7l {n:Nat} {m:Int}:(j0e n m).length=n+1:=by simp[j0e]
theorem k0n {n:Nat} {m:Int}:j0e n m++[x6y (m/2^n) 1==1]=j0e (n+1) m:=by
 simp[j0e,Qe8]
end Go.Proofs.YteikjpbbhopkaaaGreatDoor.En
namespace Go.Proofs.YteikjpbbhopkaaaGreatDoor.En
open Go
def z8g (a:List Bool) (m:Int) (k:Nat):List Bool:=a++(List.range k).map fun i=>x6y (m/2^i) 1==1
def z9h (N:Int) (a:List Bool):Nat:=((N+1)-(a.length:Int)).toNat
def u5z (N:Int) (L:List (List Int)) (a:List Bool):Bool:=(List.range (2^z9h N a)).any fun m=>Cn.j2s N L (z8g a (m:Int) (z9h N a))
theorem u9g {a:List Bool} {m:Int}:[]++a=z8g a m 0:=by simp[z8g]
theorem x0e {a:List Bool} {m:Int} {k:Nat}:(z8g a m k).length=a.length+k:=by simp[z8g]
theorem x8n {a:List Bool} {m:Int} {k:Nat}:z8g a m k++[x6y (m/2^k) 1==1]=z8g a m (k+1):=by
 simp[z8g,Qe8]
theorem u5j {N:Int} {L:List (List Int)} {a:List Bool} {m i:Nat} (hm:m<2^z9h N a) (hi:i=z9h N a) (h:Cn.j2s N L (z8g a (m:Int) i)=true):true=u5z N L a:=by
 subst hi
 exact(List.any_eq_true.2 ⟨m,List.mem_range.2 hm,h⟩).symm
theorem u9j {N:Int} {L:List (List Int)} {a:List Bool} {m:Nat} (hm:2^z9h N a≤m) (h:∀j,j<m→Cn.j2s N L (z8g a (j:Int) (z9h N a))=false):false=u5z N L a:=by
 refine(Bool.eq_false_iff.2 fun ht=>?_).symm
 obtain⟨j,hj,hv⟩:=List.any_eq_true.1 ht
 rw[h j (by have:=List.mem_range.1 hj;omega)]at hv
 cases hv
end Go.Proofs.YteikjpbbhopkaaaGreatDoor.En
