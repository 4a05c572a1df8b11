/- Lemmas and contracts for the row. -/
import Derived.Test.YteikjpbbhopkaaaGreatDoorPkRowElimGatesAA
import Derived.Test.YteikjpbbhopkaaaGreatDoorPkRowElimGatesI
set_option linter.unusedVariables false
set_option linter.unusedSimpArgs false
set_option linter.unnecessarySimpa false
namespace Go.Proofs.YteikjpbbhopkaaaGreatDoor.En
section
open Go Go.RowKit
section
variable {P : Program} {cx : Cx} {w0 : Base} {G0 : Nat → Prop} {g : Gh} {H hp : Nat → Option q0d} {nm : Nat}
  {ins : List AV} {vs : List Value} {ρ : Operand → Value} {o : Oper} {ps : List Prop} {v : AV} {hs : List (Nat × Option q0d)}
theorem u1w {xs:Array Operand} {vs:List Value} {x:AV} {ins:List AV} (hin:q0e g ins vs) (hv:xs.toList.map ρ=vs) (h:ins=[x]):∃y,xs= #[y]∧[ρ y]=vs:=by
 subst h
 obtain⟨u,e,_⟩:=q4w hin
 rw[e]at hv
 obtain⟨l⟩:=xs
 match l,hv with
 |[y],hv=>exact⟨y,rfl,by rw[e];simpa using hv⟩
theorem j5l {xs:Array Operand} {vs:List Value} {x y:AV} {ins:List AV} (hin:q0e g ins vs) (hv:xs.toList.map ρ=vs) (h:ins=[x,y]):∃a b,xs= #[a,b]∧[ρ a,ρ b]=vs:=by
 subst h
 obtain⟨u,u',e,_⟩:=q4u hin
 rw[e]at hv
 obtain⟨l⟩:=xs
 match l,hv with
 |[a,b],hv=>exact⟨a,b,rfl,by rw[e];simpa using hv⟩
theorem x3h (hcx:q1c P cx) (hhp:∀r o,hp r=some o→H r=some o) (hm:MOk w0 G0 g H) (hn:¬g.U nm) (hin:q0e g ins vs) (hv:o.op.operands.toList.map ρ=vs)
 (hc:core cx nm o.op ins hp=some (ps,v,hs)) (hps:q3n ps) (hcall:z8b o.op=false):Eff P ρ o g.W (Good w0 G0 g nm (q2e H hs) v):=by
 unfold core at hc
 split at hc<;>rename_i hop
 ·rw[hop]at hv;exact y8j hm hin hc (.inl hop) (by simpa[Op.operands]using hv)
 ·rw[hop]at hv;exact y8j hm hin hc (.inr hop) (by simpa[Op.operands]using hv)
 ·rw[hop]at hv;exact u5m hm hin hc hop (by simpa[Op.operands]using hv)
 ·rw[hop]at hv;exact k7j hm hin hc hps hop (by simpa[Op.operands]using hv)
 ·exact k2x hcx hm hn hc hop
 ·rw[hop]at hv;exact u4g hm hn hin hc hop (by simpa[Op.operands]using hv)
 ·rw[hop]at hv;exact k7p hcx hhp hm hin hc hps hop (by simpa[Op.operands]using hv)
 ·rw[hop]at hv;exact k0v hcx hhp hm hin hc hps hop (by simpa[Op.operands]using hv)
 ·rw[hop]at hv;exact k8s hcx hm hin hc hps hop (by simpa[Op.operands]using hv)
 ·rw[hop]at hv;exact u6a hm hin hc hop (by simpa[Op.operands]using hv)
 ·rw[hop]at hv;exact u3o hm hin hc hps hop (by simpa[Op.operands]using hv)
 ·rw[hop]at hv;exact y5s hcx hhp hm hn hin hc hps hop (by simpa[Op.operands]using hv)
 ·rw[hop]at hv;exact j3w hcx hm hin hc hop (by simpa[Op.operands]using hv)
 ·rw[hop]at hv;exact x9v hcx hm hin hc hop (by simpa[Op.operands]using hv)
 ·rw[hop]at hv;exact j3r hcx hm hin hhp hc hps hop (by simpa[Op.operands]using hv)
 ·rw[hop]at hv;exact y4m hm hin hc hop (by simpa[Op.operands]using hv)
 ·rw[hop]at hv;exact x4j hcx hm hhp hin hc hps hop (by simpa[Op.operands]using hv)
 ·rw[hop]at hv;exact x4n hcx hm hin hc hps hop (by simpa[Op.operands]using hv)
 ·rw[hop]at hv;exact j4o hcx hm hn hin hc hps hop (by simpa[Op.operands]using hv)
 ·rw[hop]at hv;exact y6i hcx hm hn hin hc hop (by simpa[Op.operands]using hv)
 ·rw[hop]at hv;exact j0y hcx hhp hm hin hc hps (.inl hop) (by simpa[Op.operands]using hv)
 ·rw[hop]at hv;exact j0y hcx hhp hm hin hc hps (.inr hop) (by simpa[Op.operands]using hv)
 ·rw[hop]at hv;exact x3j hcx hhp hm hin hc hop (by simpa[Op.operands]using hv)
 ·rw[hop]at hv;exact j0k hcx hhp hm hn hin hc hop (by simpa[Op.operands]using hv)
 ·rw[hop]at hv;exact x5s hcx hm hin hc hop (by simpa[Op.operands]using hv)
 ·rw[hop]at hv;exact y2l hm hin hc hop (by simpa[Op.operands]using hv)
 ·rename_i c
  rw[hop]at hv
  split at hc<;>rename_i hb
  ·simp only[Op.operands,Call.operands,hb]at hv
   split at hc
   ·rename_i t ht
    obtain⟨x,hx⟩:=k8w hc
    obtain⟨y,hy,hvy⟩:=u1w (xs:=c.args) hin (by simpa using hv) hx
    exact k6j hcx hm hin hhp hc hps hop hb ht hy hvy
   ·cases hc
  ·simp only[Op.operands,Call.operands,hb]at hv
   have h1:∃x y,ins=[x,y]:=by
    unfold v0e at hc
    split at hc
    ·exact⟨_,_,rfl⟩
    ·cases hc
   obtain⟨x,y,hx⟩:=h1
   obtain⟨a,b,hy,hvy⟩:=j5l (xs:=c.args) hin (by simpa using hv) hx
   exact u3s hm hin hc hop hb hy hvy
  ·simp only[Op.operands,Call.operands,hb]at hv
   have h1:∃x y,ins=[x,y]:=by
    unfold u9x at hc
    split at hc
    ·exact⟨_,_,rfl⟩
    ·cases hc
   obtain⟨x,y,hx⟩:=h1
   obtain⟨a,b,hy,hvy⟩:=j5l (xs:=c.args) hin (by simpa using hv) hx
   exact u4f hm hin hc hop hb hy hvy
  ·simp only[Op.operands,Call.operands,hb]at hv
   split at hc
   ·rename_i t t' ht
    cases htt:Nat.beq t t' with
    |false=>
     rw[htt]at hc
     simp only[cond_false]at hc
     obtain⟨x,y,hx⟩:=y4q hc
     obtain⟨a,b,hy,hvy⟩:=j5l (xs:=c.args) hin (by simpa using hv) hx
     exact y5n hcx hhp hm hn hin hc hps hop hb ht hy hvy
    |true=>
     rw[htt]at hc
     simp only[cond_true]at hc
     have:=Qb0 htt
     subst this
     have h1:∃x y,ins=[x,y]:=by
      unfold j4f at hc
      split at hc
      ·exact⟨_,_,rfl⟩
      ·exact⟨_,_,rfl⟩
      ·exact⟨_,_,rfl⟩
      ·cases hc
     obtain⟨x,y,hx⟩:=h1
     obtain⟨a,b,hy,hvy⟩:=j5l (xs:=c.args) hin (by simpa using hv) hx
     exact x2u hcx hhp hm hn hin hc hps hop hb ht hy hvy
   ·cases hc
  ·rw[hop]at hcall;simp[z8b,hb]at hcall
  ·cases hc
 ·cases hc
theorem y4r (hcx:q1c P cx) (hhp:∀r o,hp r=some o→H r=some o) (hm:MOk w0 G0 g H) (hn:∀r,q1i nm r=true→¬g.U r) (hin:q0e g ins vs) (hv:o.op.operands.toList.map ρ=vs)
 (hc:core cx nm o.op ins hp=some (ps,v,hs)) (hps:q3n ps):Eff P ρ o g.W (x4i w0 G0 g nm (q2e H hs) v):=by
 by_cases hcall:z8b o.op=true
 ·unfold core at hc
  cases hop:o.op with
  |call c=>
   rw[hop]at hc hv hcall
   simp only at hc
   cases hb:c.callee with
   |value x=>
    rw[hb]at hc
    simp only[Op.operands,Call.operands,hb]at hv
    exact k8v hcx hhp hm hn hin hc hps hop hb (by simpa using hv)
   |_=>simp[z8b,hb]at hcall
  |_=>rw[hop]at hcall;simp[z8b]at hcall
 ·exact(x3h hcx hhp hm (hn nm (z8d nm)) hin hv hc hps (by simpa using hcall)).mono fun _ _ h=>h.up
end
def z0o (w0:Base) (G0:Nat→Prop) (n:Nat) (U:Nat→Prop) (S:St) (a:Act) (W:World):Prop:=
 a.tmps.size=n∧a.defers=w0.ds∧∃g:Gh,g.W=W∧(∀r,g.U r→U r)∧MOk w0 G0 g S.heap∧∀i,Den g (S.env i) (a.tmps.getD i undef)
theorem y0x {g:Gh} {S:St} {a:Act} (hg:j2i g) (h:∀i,Den g (S.env i) (a.tmps.getD i undef)) (x:Operand):Den g (S.ev x) (a.eval x):=by
 cases x with
 |tmp t=>exact h t
 |const v=>exact q0g v
 |global k=>
  simp only[St.ev]
  cases hl:look k glb with
  |none=>simp only[Den]
  |some xs=>
   cases hw:Nat.beq (glw k) 0 with
   |false=>simp only[cond_false,Den]
   |true=>
   simp only[cond_true,Den,Act.eval]
   refine⟨k,0,rfl,(hg k xs hl).1,fun j x hx=>?_⟩
   rw[Qg6]at hx
   cases hj:xs[j]? with
   |none=>rw[hj]at hx;cases hx
   |some y=>rw[hj]at hx;cases hx;exact⟨y,by rw[Qg7];exact((hg k xs hl).2.1 (Qb0 hw)).1 j y hj,.val y⟩
 |func f=>
  simp only[St.ev]
  cases hlt:Nat.blt f bndK with
  |false=>simp only[cond_false,Den]
  |true=>simp only[cond_true,Den,Act.eval];exact⟨[],(z1u hlt).symm,by simp[q0e]⟩
theorem y6b {g:Gh} {S:St} {a:Act} (hg:j2i g) (h:∀i,Den g (S.env i) (a.tmps.getD i undef)):∀xs:List Operand,q0e g (xs.map S.ev) (xs.map a.eval)
 |[]=>by simp[q0e]
 |x::l=>by simp only[Qc6,q0e];exact⟨_,_,rfl,y0x hg h x,y6b hg h l⟩
theorem q6p {p:Prop} {l:List Prop}:q3n (p::l)↔p∧q3n l:=by
 cases l with
 |nil=>simp[q3n]
 |cons q l=>simp[q3n]
theorem q1w:∀{l m:List Prop},q3n (l++m)↔q3n l∧q3n m
 |[],m=>by simp[q3n]
 |p::l,m=>by rw[Qc9,q6p,q6p,q1w,and_assoc]
theorem z5y:∀{l:List Bool},q3n (eqT l)↔∀c∈l,c=true
 |[]=>by simp[eqT,q3n]
 |c::l=>by rw[eqT,q6p,z5y];simp
theorem j3n {gd:Bool}:∀{l:List Prop},q3n (y9q gd l)→gd=true→q3n l
 |[],_,_=>by simp[q3n]
 |p::l,h,hg=>by rw[y9q,q6p]at h;rw[q6p];exact⟨h.1 hg,j3n h.2 hg⟩
theorem j8a {g:Gh} {x:AV} {u:Value} (hd:Den g x u) (hc:∀c∈x.strip.1,c=true):Den g x.strip.2 u:=by
 cases x with
 |opt c x=>simp only[Den]at hd;exact hd.1 (hc c (by simp[AV.strip]))
 |_=>exact hd
theorem j2y {g:Gh}:∀{xs:List AV} {us:List Value},q0e g xs us→(∀c∈(stripL xs).1,c=true)→q0e g (stripL xs).2 us
 |[],us,h,_=>by simpa[stripL]using h
 |x::l,us,h,hc=>by
  simp only[q0e]at h
  obtain⟨v,vs',e,h1,h2⟩:=h
  simp only[stripL,q0e]
  refine⟨v,vs',e,j8a h1 fun c hx=>hc c ?_,j2y h2 fun c hx=>hc c ?_⟩
  ·simp only[stripL];exact Qd7 _ hx
  ·simp only[stripL];exact Qe9 _ hx
theorem j8s {g:Gh} {op:Op} {xs:List AV} {us:List Value} (h:q0e g xs us) (hc:∀c∈(q3q op xs).1,c=true):q0e g (q3q op xs).2 us:=by
 unfold q3q at hc⊢
 cases hp:u0q op with
 |false=>rw[hp]at hc;exact j2y h hc
 |true=>
  rw[hp]at hc
  simp only[cond_true]at hc⊢
  cases xs with
  |nil=>exact h
  |cons x l=>
   simp only[q0e]at h⊢
   obtain⟨v,vs',e,h1,h2⟩:=h
   exact⟨v,vs',e,j8a h1 hc,h2⟩
theorem y0a {g:Gh} {want gd:Bool} {x:AV} {u:Value} (h:guardOf want x=some gd) (hd:Den g x u):(gd=true↔u=.bool want):=by
 unfold guardOf at h
 split at h
 ·rename_i b
  cases h
  rw[q0b hd]
  cases want<;>cases b<;>simp
 ·rename_i c b
  cases h
  simp only[Den]at hd
  cases c with
  |false=>rw[hd.2 rfl];simp[undef]
  |true=>
   have:=hd.1 rfl
   have hu:u=.bool b:=q0b (g:=g) (by simp only[Den];exact this)
   rw[hu]
   cases want<;>cases b<;>simp
 ·cases h
theorem z5t {a:Act} {d:Option Tmp} {v:Value}:(a.put d v).tmps.size=a.tmps.size:=by cases d<;>simp[Act.put]
theorem z6i {a:Act} {d:Option Tmp} {v:Value}:(a.put d v).defers=a.defers:=by cases d<;>simp[Act.put]
theorem j3v {g:Gh} {S:St} {a:Act} {d:Option Tmp} {v:AV} {u:Value} {hs:List (Nat×Option q0d)} (h:∀i,Den g (S.env i) (a.tmps.getD i undef)) (hd:Den g v u) (hlt:∀k,d=some k→k<a.tmps.size) (i:Nat):
 Den g ((S.put d v hs).env i) ((a.put d u).tmps.getD i undef):=by
 cases d with
 |none=>exact h i
 |some k=>
  have hk:=hlt k rfl
  simp only[St.put,Act.put,upd]
  by_cases e:i=k
  ·subst e
   rw[q6x]
   simp only[cond_true]
   have:(a.tmps.setIfInBounds i u).getD i undef=u:=by simp[Array.getD,hk]
   rw[this]
   exact hd
  ·rw[q4x e]
   simp only[cond_false]
   have:(a.tmps.setIfInBounds k u).getD i undef=a.tmps.getD i undef:=by
    simp only[Qf3]
    rw[Qn5 (fun e'=>e e'.symm)]
   rw[this]
   exact h i
theorem q9p {rd:Option Nat} {P:Program} {cx:Cx} {w0:Base} {G0:Nat→Prop} {n nm:Nat} {U:Nat→Prop} {S:St} {a:Act} {W:World} {ops:Array Oper} {o:Oper} {ps:List Prop} {v:AV} {hs:List (Nat×Option q0d)}
 (hcx:q1c P cx) (hs':z0o w0 G0 n U S a W) (hst:q1f cx ops nm o S=some (ps,v,hs)) (hps:q3n ps) (hn:∀r,q1i nm r=true→¬U r) (hd:∀k,o.dst=some k→k<n) {K:Act→World→Prop} {Q:Exit→Act→World→Prop}
 (hK:∀a' W',z0o w0 G0 n (fun r=>U r∨q1i nm r=true) (S.put o.dst v hs) a' W'→K a' W'):
 if Region.wanted o (yielded ops a.tmps)=true then o.wpIn (FR rd) 3 P a W K Q else(∀f,o.about P W a.eval=some f→(FR rd).fn f)∧K (a.put o.dst undef) W:=by
 obtain⟨hsz,hdf,g,rfl,hU,hm,henv⟩:=hs'
 unfold q1f at hst
 cases hcore:core cx nm o.op (q3q o.op (q9g S o)).2 (inL (readsOf S o) S.heap)with
 |none=>rw[hcore]at hst;cases hst
 |some t=>
  obtain⟨p,v',hs''⟩:=t
  rw[hcore]at hst
  simp only[u8p]at hst
  have hgu:∀r,q1i nm r=true→¬g.U r:=fun r hr h=>hn r hr (hU r h)
  have hraw:q0e g (q9g S o) (o.op.operands.toList.map a.eval):=y6b hm.anc.2 henv o.op.operands.toList
  have hinL:∀r ob,inL (readsOf S o) S.heap r=some ob→S.heap r=some ob:=by
   intro r ob h
   unfold inL at h
   cases hmm:q5q r (readsOf S o)with
   |false=>rw[hmm]at h;cases h
   |true=>rw[hmm]at h;exact h
  have hdlt:∀k,o.dst=some k→k<a.tmps.size:=fun k hk=>by rw[hsz];exact hd k hk
  have hnd:∀c,o.op≠.defer c:=fun c e=>by rw[e]at hcore;simp[core]at hcore
  have run:(∀c∈(q3q o.op (q9g S o)).1,c=true)→q3n p→o.wpIn (FR rd) 3 P a g.W (fun a' W'=>∃u g',a'=a.put o.dst u∧g'.W=W'∧g.le g'∧(∀r,g'.U r↔(g.U r∨q1i nm r=true))∧MOk w0 G0 g' (q2e S.heap hs'')∧Den g' v' u) Q:=by
   intro hcs hp
   have:=y4r (o:=o) (nm:=nm) hcx hinL hm hgu (j8s (op:=o.op) hraw hcs) rfl hcore hp
   exact this.wpIn hnd fun u W' ⟨g',h1,h2,h3,h4,h5⟩=>⟨u,g',rfl,h1,h2,h3,h4,h5⟩
  cases hnk:z3y nm (readsOf S o) hs'' with
  |false=>rw[hnk]at hst;cases hst
  |true=>
   rw[hnk]at hst
   simp only[cond_true]at hst
   split at hst
   ·rename_i hg
    simp only[Option.some.injEq,Prod.mk.injEq]at hst
    obtain⟨rfl,rfl,rfl⟩:=hst
    rw[if_pos (by simp[Region.wanted,hg])]
    rw[q1w,z5y]at hps
    refine Oper.wpIn_mono ?_ (run hps.1 hps.2)
    rintro a' W' ⟨u,g',rfl,h1,h2,h3,h4,h5⟩
    exact hK _ _ ⟨by rw[z5t];exact hsz,by rw[z6i];exact hdf,g',h1,fun r hr=>((h3 r).1 hr).imp (hU r) id,h4,j3v (fun i=>Den.mono h2 _ _ (henv i)) h5 hdlt⟩
   ·rename_i jw hg
    obtain⟨j,want⟩:=jw
    simp only at hst
    split at hst
    ·cases hst
    ·rename_i d hdst
     split at hst
     ·rename_i gd hgd
      simp only[Option.some.injEq,Prod.mk.injEq]at hst
      obtain⟨rfl,rfl,rfl⟩:=hst
      have hgv:=y0a hgd (henv d)
      have hyl:yielded ops a.tmps j=match a.tmps[d]? with|some (.bool b)=>some b|_=>none:=by
       unfold yielded
       have:(ops[j]?).bind (·.dst)=some d:=by
        unfold x7i at hdst
        cases hj:ops[j]? with
        |none=>rw[hj]at hdst;cases hdst
        |some oj=>rw[hj]at hdst;exact hdst
       rw[this]
       rfl
      have hw:Region.wanted o (yielded ops a.tmps)=true↔gd=true:=by
       unfold Region.wanted
       rw[hg,hgv]
       simp only[hyl]
       rw[Qf3]
       cases hx:a.tmps[d]? with
       |none=>simp[undef]
       |some x=>cases x<;>simp
      cases hgd':gd with
      |true=>
       rw[if_pos (hw.2 hgd')]
       have hpp:=j3n hps hgd'
       rw[q1w,z5y]at hpp
       refine Oper.wpIn_mono ?_ (run hpp.1 hpp.2)
       rintro a' W' ⟨u,g',rfl,h1,h2,h3,h4,h5⟩
       refine hK _ _ ⟨by rw[z5t];exact hsz,by rw[z6i];exact hdf,g',h1,fun r hr=>((h3 r).1 hr).imp (hU r) id,h4,j3v (fun i=>Den.mono h2 _ _ (henv i)) ?_ hdlt⟩
       simp only[Den]
       exact⟨fun _=>h5,fun h=>by rw[hgd']at h;cases h⟩
      |false=>
       rw[if_neg (fun h=>by rw[hw.1 h]at hgd';cases hgd')]
       refine⟨fun _ _=>trivial,?_⟩
       refine hK _ _ ⟨by rw[z5t];exact hsz,by rw[z6i];exact hdf,g,rfl,fun r hr=>.inl (hU r hr),hm,j3v henv ?_ hdlt⟩
       simp only[Den]
       exact⟨fun h=>absurd (hgd'.symm.trans h) (by decide),fun _=>by simp⟩
     ·rename_i gd _ _ hgd
      simp only[Option.some.injEq,Prod.mk.injEq]at hst
      obtain⟨rfl,rfl,rfl⟩:=hst
      have hgv:=y0a hgd (henv d)
      have hyl:yielded ops a.tmps j=match a.tmps[d]? with|some (.bool b)=>some b|_=>none:=by
       unfold yielded
       have:(ops[j]?).bind (·.dst)=some d:=by
        unfold x7i at hdst
        cases hj:ops[j]? with
        |none=>rw[hj]at hdst;cases hdst
        |some oj=>rw[hj]at hdst;exact hdst
       rw[this]
       rfl
      have hw:Region.wanted o (yielded ops a.tmps)=true↔gd=true:=by
       unfold Region.wanted
       rw[hg,hgv]
       simp only[hyl]
       rw[Qf3]
       cases hx:a.tmps[d]? with
       |none=>simp[undef]
       |some x=>cases x<;>simp
      have hps2:gd=true∧q3n (eqT (q3q o.op (q9g S o)).1++p):=by
       have h9:q3n ([gd=true]++(eqT (q3q o.op (q9g S o)).1++p)):=hps
       rw[q1w]at h9
       exact h9
      rw[if_pos (hw.2 hps2.1)]
      have hpp:=hps2.2
      rw[q1w,z5y]at hpp
      refine Oper.wpIn_mono ?_ (run hpp.1 hpp.2)
      rintro a' W' ⟨u,g',rfl,h1,h2,h3,h4,h5⟩
      exact hK _ _ ⟨by rw[z5t];exact hsz,by rw[z6i];exact hdf,g',h1,fun r hr=>((h3 r).1 hr).imp (hU r) id,h4,j3v (fun i=>Den.mono h2 _ _ (henv i)) h5 hdlt⟩
     ·cases hst
end
end Go.Proofs.YteikjpbbhopkaaaGreatDoor.En
namespace Go.Proofs.YteikjpbbhopkaaaGreatDoor.En
section
open Go Go.RowKit
structure Rec where
 i:Nat
 o:Oper
 T:List Nat
 N:List Nat
def q2d (cx:Cx) (ops:Array Oper):List (Nat×Oper)→St→Option (List Prop×St×List Rec)
 |[],S=>some ([],S,[])
 |(i,o)::l,S=>
  match q1f cx ops (1000+i) o S with
  |some (p,v,hs)=>
   match q2d cx ops l (S.put o.dst v hs)with
   |some (q,S',R)=>some (p++q,S',⟨i,o,readsOf S o,hs.map (·.1)⟩::R)
   |none=>none
  |none=>none
def k5m (n:Nat) (l m:List Nat):Bool:=l.all fun r=> !q1i n r&& !q5q r m
def y4n (wt:List Nat) (i j:Nat):Bool:=Nat.testBit (wt.getD j 0) i
def k8g (ops:Array Oper) (wt:List Nat):Bool:=Nat.beq wt.length ops.size&&(q2v 0 ops.toList).all fun x=>Nat.blt (wt.getD x.1 0) (2^ops.size)&&(List.range ops.size).all fun i=> !y4n wt i x.1||
 x.2.after.toList.any fun e=>Region.binds .any e&&(Nat.blt e.on x.1&&(Nat.beq e.on i||y4n wt i e.on))
def x1d (ops:Array Oper) (wt:List Nat) (a b:Rec):Bool:=
 y4n wt a.i b.i||(a.o.apart ops b.o&&(k5m (1000+b.i) a.N b.T&&k5m (1000+a.i) b.N a.T))
def q4y (ops:Array Oper) (wt:List Nat):List Rec→Bool
 |[]=>true
 |a::l=>l.all (x1d ops wt a)&&q4y ops wt l
def z3h (l:List (Nat×Oper)):Bool:=l.all fun x=>x.2.after.all fun e=> !Region.binds .any e||Nat.blt e.on x.1
def q8q (n:Nat) (l:List (Nat×Oper)):Bool:=l.all fun x=>match x.2.dst with|some d=>Nat.blt d n|none=>true
theorem y8a {n:Nat} {l m:List Nat}:k5m n l m=true↔∀r∈l,q1i n r=false∧r∉m:=by
 unfold k5m
 rw[Qh1]
 have key:∀r,(!q1i n r&& !q5q r m)=true↔q1i n r=false∧r∉m:=by
  intro r
  rw[←q1v]
  cases q1i n r<;>cases q5q r m<;>simp
 exact⟨fun h r hr=>(key r).1 (h r hr),fun h r hr=>(key r).2 (h r hr)⟩
theorem j1w:∀{l acc:List Nat} {r:Nat},r∈acc→r∈j8o acc l
 |[],acc,r,h=>h
 |x::l,acc,r,h=>by
  unfold j8o
  refine j1w ?_
  cases q5q x acc with
  |true=>exact h
  |false=>exact Qd7 _ h
theorem j2l {hp:Nat→Option q0d}:∀{k:Nat} {acc:List Nat} {r:Nat},r∈acc→r∈z6v hp k acc
 |0,_,_,h=>h
 |k+1,_,_,h=>j2l (k:=k) (j1w h)
theorem z0p {hp hp':Nat→Option q0d}:∀{l:List Nat},(∀r∈l,hp r=hp' r)→q4c hp l=q4c hp' l
 |[],_=>rfl
 |x::l,h=>by
  simp only[q4c]
  rw[z0p (fun r hr=>h r (Qb7 _ hr))]
  unfold y7j
  rw[h x Qb4]
theorem z4k {hp hp':Nat→Option q0d}:∀{k:Nat} {acc:List Nat},(∀r∈z6v hp k acc,hp r=hp' r)→z6v hp' k acc=z6v hp k acc
 |0,acc,_=>rfl
 |k+1,acc,h=>by
  unfold z6v
  have h1:q4c hp' acc=q4c hp acc:=(z0p fun r hr=>h r (j2l (k:=k+1) hr)).symm
  rw[h1]
  exact z4k (k:=k) fun r hr=>h r hr
theorem y6r {S S':St} {o:Oper} (hraw:q9g S' o=q9g S o) (hh:∀r∈readsOf S o,S.heap r=S'.heap r):readsOf S' o=readsOf S o:=by
 unfold readsOf at hh⊢
 rw[hraw]
 cases hc:z8b o.op with
 |false=>rfl
 |true=>
  rw[hc]at hh
  simp only[cond_true]at hh⊢
  exact z4k hh
theorem j3f {cx:Cx} {ops:Array Oper} {nm:Nat} {o:Oper} {S S':St} (he:∀t∈o.looksAt ops,S.env t=S'.env t) (hh:∀r∈readsOf S o,S.heap r=S'.heap r):
 readsOf S' o=readsOf S o∧q1f cx ops nm o S'=q1f cx ops nm o S:=by
 have hraw:q9g S' o=q9g S o:=by
  unfold q9g
  refine Qn0 fun x hx=>?_
  cases x with
  |tmp t=>exact(he t (Qd7 _ (List.mem_filterMap.2 ⟨.tmp t,hx,rfl⟩))).symm
  |_=>rfl
 have hrd:=y6r hraw hh
 refine⟨hrd,?_⟩
 unfold q1f
 have hin:inL (readsOf S o) S'.heap=inL (readsOf S o) S.heap:=by
  funext r
  unfold inL
  cases hx:q5q r (readsOf S o)with
  |false=>rfl
  |true=>exact(hh r (q1v.1 hx)).symm
 rw[hrd,hraw,hin]
 generalize core cx nm o.op (q3q o.op (q9g S o)).2 (inL (readsOf S o) S.heap)=out
 cases out with
 |none=>rfl
 |some t=>
  obtain⟨p,v,hs⟩:=t
  unfold u8p
  cases hg:o.guard with
  |none=>rfl
  |some jw=>
   simp only
   cases hd:x7i ops jw.1 with
   |none=>rfl
   |some d=>
    have:S'.env d=S.env d:=by
     refine(he d (Qe9 _ ?_)).symm
     rw[hg]
     unfold x7i at hd
     cases hj:ops[jw.1]? with
     |none=>rw[hj]at hd;cases hd
     |some oj=>rw[hj]at hd;simp[hj,hd]
    simp only[this]
theorem q2n {hs:List (Nat×Option q0d)}:∀{H:Nat→Option q0d} {r:Nat},r∉hs.map (·.1)→(hs.foldl (fun h x=>upd h x.1 x.2) H) r=H r:=by
 induction hs with
 |nil=>intro H r _;rfl
 |cons x l ih=>
  intro H r h
  simp only[Qc6,Qf1,not_or]at h
  rw[Qe2,ih h.2]
  unfold upd
  rw[q4x h.1]
  rfl
theorem q9d {hs:List (Nat×Option q0d)}:∀{H H':Nat→Option q0d} {r:Nat},H r=H' r→(hs.foldl (fun h x=>upd h x.1 x.2) H) r=(hs.foldl (fun h x=>upd h x.1 x.2) H') r:=by
 induction hs with
 |nil=>intro H H' r h;exact h
 |cons x l ih=>
  intro H H' r h
  rw[Qe2,Qe2]
  refine ih ?_
  unfold upd
  cases Nat.beq r x.1 with
  |true=>rfl
  |false=>exact h
theorem y1x {hs:List (Nat×Option q0d)}:∀{H H':Nat→Option q0d} {r:Nat},r∈hs.map (·.1)→(hs.foldl (fun h x=>upd h x.1 x.2) H) r=(hs.foldl (fun h x=>upd h x.1 x.2) H') r:=by
 induction hs with
 |nil=>intro H H' r h;simp at h
 |cons x l ih=>
  intro H H' r h
  rw[Qe2,Qe2]
  by_cases hl:r∈l.map (·.1)
  ·exact ih hl
  ·simp only[Qc6,Qf1,hl,or_false]at h
   subst h
   refine q9d ?_
   unfold upd
   rw[q6x]
   rfl
theorem x8c {S:St} {d d':Option Nat} {v v':AV} {h h':List (Nat×Option q0d)} (hd:∀k,d=some k→d'≠some k) (hh:∀r∈h.map (·.1),r∉h'.map (·.1)):(S.put d v h).put d' v' h'=(S.put d' v' h').put d v h:=by
 unfold St.put
 simp only[St.mk.injEq]
 constructor
 ·cases d with
  |none=>rfl
  |some k=>
   cases d' with
   |none=>rfl
   |some k'=>
    have hne:k≠k':=fun e=>hd k rfl (by rw[e])
    funext i
    simp only[upd]
    by_cases h1:i=k
    ·subst h1;rw[q6x,q4x hne];rfl
    ·rw[q4x h1];rfl
 ·funext r
  by_cases h1:r∈h.map (·.1)
  ·rw[q2n (hh r h1)]
   exact y1x h1
  ·rw[q2n (hs:=h) h1]
   exact q9d (q2n h1)
theorem z0r {n:Nat} {rs:List Nat}:∀{hs:List (Nat×Option q0d)},z3y n rs hs=true→∀r∈hs.map (·.1),q1i n r=true∨r∈rs
 |[],_,r,hr=>by simp at hr
 |(k,x)::l,h,r,hr=>by
  simp only[z3y,Qa2,Qd2]at h
  simp only[Qc6,Qf1]at hr
  rcases hr with rfl|hr
  ·exact h.1.imp id q1v.1
  ·exact z0r h.2 r hr
theorem k4a {cx:Cx} {ops:Array Oper} {j k:Nat} {oj ok:Oper} {S:St} {p1 p2:List Prop} {v1 v2:AV} {h1 h2:List (Nat×Option q0d)}
 (s1:q1f cx ops (1000+j) oj S=some (p1,v1,h1)) (s2:q1f cx ops (1000+k) ok (S.put oj.dst v1 h1)=some (p2,v2,h2))
 (hap:oj.apart ops ok=true) (d1:∀r∈h1.map (·.1),q1i (1000+k) r=false∧r∉readsOf (S.put oj.dst v1 h1) ok) (d2:∀r∈h2.map (·.1),q1i (1000+j) r=false∧r∉readsOf S oj) (hsub:∀r∈h1.map (·.1),q1i (1000+j) r=true∨r∈readsOf S oj):
 q1f cx ops (1000+k) ok S=some (p2,v2,h2)∧readsOf S ok=readsOf (S.put oj.dst v1 h1) ok∧q1f cx ops (1000+j) oj (S.put ok.dst v2 h2)=some (p1,v1,h1)∧readsOf (S.put ok.dst v2 h2) oj=readsOf S oj∧
  (S.put ok.dst v2 h2).put oj.dst v1 h1=(S.put oj.dst v1 h1).put ok.dst v2 h2:=by
 obtain⟨a1,a2,a3⟩:=Oper.apart_spec hap
 have l1:=j3f (cx:=cx) (ops:=ops) (nm:=1000+k) (o:=ok) (S:=S.put oj.dst v1 h1) (S':=S) (fun t ht=>by
  unfold St.put
  cases hd:oj.dst with
  |none=>rfl
  |some d=>
   have:t≠d:=fun e=>a1 d hd (e▸ht)
   simp only[upd]
   rw[q4x this]
   rfl) (fun r hr=>q2n (fun hx=>(d1 r hx).2 hr))
 have l2:=j3f (cx:=cx) (ops:=ops) (nm:=1000+j) (o:=oj) (S:=S) (S':=S.put ok.dst v2 h2) (fun t ht=>by
  unfold St.put
  cases hd:ok.dst with
  |none=>rfl
  |some d=>
   have:t≠d:=fun e=>a3 d hd (e▸ht)
   simp only[upd]
   rw[q4x this]
   rfl) (fun r hr=>(q2n (fun hx=>(d2 r hx).2 hr)).symm)
 refine⟨l1.2.trans s2,l1.1,l2.2.trans s1,l2.1,?_⟩
 refine x8c (fun d hd hd'=>a2 d hd' hd) (fun r hr hr'=>?_)
 rcases hsub r hr' with e|e
 ·have:=(d2 r hr).1
  rw[e]at this
  cases this
 ·exact(d2 r hr).2 e
theorem x5h {cx:Cx} {ops:Array Oper} {nm:Nat} {o:Oper} {S:St} {p:List Prop} {v:AV} {h:List (Nat×Option q0d)} (s:q1f cx ops nm o S=some (p,v,h)):∀r∈h.map (·.1),q1i nm r=true∨r∈readsOf S o:=by
 unfold q1f at s
 cases hc:core cx nm o.op (q3q o.op (q9g S o)).2 (inL (readsOf S o) S.heap)with
 |none=>rw[hc]at s;cases s
 |some t=>
  obtain⟨p',v',h'⟩:=t
  rw[hc]at s
  unfold u8p at s
  simp only at s
  cases hn:z3y nm (readsOf S o) h' with
  |false=>rw[hn]at s;cases s
  |true=>
   rw[hn]at s
   simp only[cond_true]at s
   split at s
   ·simp only[Option.some.injEq,Prod.mk.injEq]at s
    obtain⟨_,_,rfl⟩:=s
    exact z0r hn
   ·split at s
    ·cases s
    ·split at s
     ·simp only[Option.some.injEq,Prod.mk.injEq]at s
      obtain⟨_,_,rfl⟩:=s
      intro r hr
      simp at hr
     ·simp only[Option.some.injEq,Prod.mk.injEq]at s
      obtain⟨_,_,rfl⟩:=s
      exact z0r hn
     ·cases s
theorem j6u {ops:Array Oper} {wt:List Nat} (h:k8g ops wt=true) {i:Nat}:∀(f j:Nat),j<f→y4n wt i j=true→q8d .any ops i f j=true
 |0,j,hj,_=>by omega
 |f+1,j,hj,hi=>by
  have h0:=h
  unfold k8g at h
  simp only[Qa2]at h
  obtain⟨hl,h⟩:=h
  have hl:=Qb0 hl
  have hjl:j<ops.size:=by
   rcases Qi7 j wt.length with hlt|hge
   ·omega
   ·have:wt.getD j 0=0:=by simp[List.getD,Ql7 hge]
    unfold y4n at hi
    rw[this]at hi
    simp at hi
  have ho:ops[j]? =some ops[j]:=by simp[hjl]
  have hmem:(j,ops[j])∈q2v 0 ops.toList:=by
   have key:∀(l:List Oper) (k i:Nat) (x:Oper),l[i]? =some x→(k+i,x)∈q2v k l:=by
    intro l
    induction l with
    |nil=>intro k i x hx;simp at hx
    |cons y l ih=>
     intro k i x hx
     rcases i with _|i
     ·simp at hx;subst hx;simp[q2v]
     ·simp only[q2v]
      refine Qb7 _ ?_
      rw[show k+(i+1)=k+1+i by omega]
      exact ih (k+1) i x (by simpa using hx)
   have:=key ops.toList 0 j ops[j] (by simp)
   simpa using this
  have hx:=(List.all_eq_true.1 h) _ hmem
  simp only[Qa2]at hx
  have hib:i<ops.size:=by
   have h1:wt.getD j 0<2^ops.size:=by simpa using hx.1
   rcases Qi7 i ops.size with h2|h2
   ·exact h2
   ·unfold y4n at hi
    rw[Qn4 (Qc2 h1 (Qi3 (by omega) h2))]at hi
    cases hi
  have hy:=(List.all_eq_true.1 hx.2) i (List.mem_range.2 hib)
  rw[hi]at hy
  simp only[Qm1,Qm2]at hy
  obtain⟨e,he,hb⟩:=List.any_eq_true.1 hy
  simp only[Qa2,Qd2]at hb
  obtain⟨h1,h2,h3⟩:=hb
  have h2':e.on<j:=by simpa using h2
  unfold q8d
  rw[ho]
  refine Array.any_eq_true'.2 ⟨e,by simpa using he,?_⟩
  simp only[Qa2,Qd2,beq_iff_eq]
  refine⟨h1,?_⟩
  rcases h3 with h3|h3
  ·exact .inl (Qb0 h3)
  ·exact .inr (j6u h0 f e.on (by omega) h3)
theorem z9v {cx:Cx} {ops:Array Oper} {wt:List Nat} (hwt:k8g ops wt=true) {i:Nat} {o:Oper} (hi:i<ops.size):∀{l1 l2:List (Nat×Oper)} {S Sf:St} {ps:List Prop} {R:List Rec},q2d cx ops (l1++(i,o)::l2) S=some (ps,Sf,R)→q4y ops wt R=true→
 (∀x∈l1,q8d .any ops x.1 ops.size i=false)→q3n ps→
 ∃p v hs ps' R',q1f cx ops (1000+i) o S=some (p,v,hs)∧q3n p∧q2d cx ops (l1++l2) (S.put o.dst v hs)=some (ps',Sf,R')∧q3n ps'∧q4y ops wt R'=true∧
  (∀a:Rec,(∀b∈R,x1d ops wt a b=true)→∀b∈R',x1d ops wt a b=true)∧(⟨i,o,readsOf S o,hs.map (·.1)⟩:Rec)∈R:=by
 intro l1
 induction l1 with
 |nil=>
  intro l2 S Sf ps R hr hp _ ha
  simp only[Qg8,q2d]at hr
  cases hs:q1f cx ops (1000+i) o S with
  |none=>rw[hs]at hr;cases hr
  |some t=>
   obtain⟨p,v,h⟩:=t
   rw[hs]at hr
   simp only at hr
   cases hr2:q2d cx ops l2 (S.put o.dst v h)with
   |none=>rw[hr2]at hr;cases hr
   |some t2=>
    obtain⟨q,S',R'⟩:=t2
    rw[hr2]at hr
    simp only[Option.some.injEq,Prod.mk.injEq]at hr
    obtain⟨rfl,rfl,rfl⟩:=hr
    rw[q1w]at ha
    simp only[q4y,Qa2]at hp
    exact⟨p,v,h,q,R',rfl,ha.1,by simpa using hr2,ha.2,hp.2,fun a hb b hm=>hb b (Qb7 _ hm),Qb4⟩
 |cons x l1 ih=>
  intro l2 S Sf ps R hr hp hw ha
  obtain⟨j,oj⟩:=x
  simp only[Qc9,q2d]at hr
  cases hs:q1f cx ops (1000+j) oj S with
  |none=>rw[hs]at hr;cases hr
  |some t=>
   obtain⟨p1,v1,h1⟩:=t
   rw[hs]at hr
   simp only at hr
   cases hr2:q2d cx ops (l1++(i,o)::l2) (S.put oj.dst v1 h1)with
   |none=>rw[hr2]at hr;cases hr
   |some t2=>
    obtain⟨q,S',R1⟩:=t2
    rw[hr2]at hr
    simp only[Option.some.injEq,Prod.mk.injEq]at hr
    obtain⟨rfl,rfl,rfl⟩:=hr
    rw[q1w]at ha
    simp only[q4y,Qa2]at hp
    obtain⟨p,v,hs2,ps',R',g1,g2,g3,g4,g5,g6,g7⟩:=ih hr2 hp.2 (fun x hx=>hw x (Qb7 _ hx)) ha.2
    have hpair:=(List.all_eq_true.1 hp.1) _ g7
    unfold x1d at hpair
    have hnw:y4n wt j i=false:=by
     cases hx:y4n wt j i with
     |false=>rfl
     |true=>
      have:=j6u hwt ops.size i hi hx
      rw[hw (j,oj) Qb4]at this
      cases this
    rw[hnw]at hpair
    simp only[Qm2,Qa2]at hpair
    obtain⟨c1,c2,c3⟩:=hpair
    obtain⟨e1,e2,e3,e4,e5⟩:=k4a hs g1 c1 (y8a.1 c2) (y8a.1 c3) (x5h hs)
    refine⟨p,v,hs2,p1++ps',⟨j,oj,readsOf S oj,h1.map (·.1)⟩::R',e1,g2,?_,q1w.2 ⟨ha.1,g4⟩,?_,?_,?_⟩
    ·simp only[Qc9,q2d,e3,e5,g3,e4]
    ·simp only[q4y,Qa2]
     exact⟨List.all_eq_true.2 (g6 _ (List.all_eq_true.1 hp.1)),g5⟩
    ·intro a hb b hm
     rcases List.mem_cons.1 hm with rfl|hm
     ·exact hb _ Qb4
     ·exact g6 a (fun b' hb'=>hb b' (Qb7 _ hb')) b hm
    ·rw[e2]
     exact Qb7 _ g7
end
end Go.Proofs.YteikjpbbhopkaaaGreatDoor.En
namespace Go.Proofs.YteikjpbbhopkaaaGreatDoor.En
section
open Go Go.RowKit
theorem j4t {α:Type}:∀(l:List α) (k i:Nat),(q2v k l)[i]? =(l[i]?).map fun x=>(k+i,x)
 |[],_,_=>by simp[q2v]
 |x::l,k,0=>by simp[q2v]
 |x::l,k,i+1=>by
  simp only[q2v,Qa7]
  rw[j4t l (k+1) i]
  congr 1
  funext y
  rw[Qg5,Nat.add_comm 1 i]
theorem z2f {α:Type} {l:List α} {x:Nat×α} (h:x∈q2v 0 l):l[x.1]? =some x.2:=by
 obtain⟨i,hi,e⟩:=List.mem_iff_getElem.1 h
 have:=j4t l 0 i
 rw[Qa0 hi,e]at this
 cases hl:l[i]? with
 |none=>rw[hl]at this;cases this
 |some y=>
  rw[hl]at this
  simp at this
  rw[this]
  exact hl
theorem q5g {α:Type} {l:List α} {i:Nat} {x:α} (h:l[i]? =some x):(i,x)∈q2v 0 l:=by
 have:=j4t l 0 i
 rw[h]at this
 exact Qo6 (by simpa using this)
theorem q7a {α:Type}:∀(l:List α) (k:Nat),(q2v k l).Pairwise (fun a b=>a.1<b.1)∧∀x∈q2v k l,k≤x.1
 |[],k=>by simp[q2v]
 |x::l,k=>by
  obtain⟨h1,h2⟩:=q7a l (k+1)
  simp only[q2v]
  refine⟨List.pairwise_cons.2 ⟨fun y hy=>by have:=h2 y hy;show k<y.1;omega,h1⟩,fun y hy=>?_⟩
  rcases List.mem_cons.1 hy with rfl|hy
  ·exact Qb8 _
  ·have:=h2 y hy;omega
def q4k (ops:Array Oper) (L:Array Bool):List (Nat×Oper):=(q2v 0 ops.toList).filter fun x=> !L.getD x.1 true
theorem y5x {ops:Array Oper} {L:Array Bool} {i:Nat} {o:Oper} (hsz:L.size=ops.size) (ho:ops[i]? =some o) (hi:L.getD i true=false):
 ∃l1 l2,q4k ops L=l1++(i,o)::l2∧q4k ops (L.setIfInBounds i true)=l1++l2:=by
 have hlt:i<ops.size:=(Array.getElem?_eq_some_iff.1 ho).1
 have hmem:(i,o)∈q2v 0 ops.toList:=q5g (by simpa using ho)
 obtain⟨a,b,hab⟩:=List.append_of_mem hmem
 have hs:=(q7a ops.toList 0).1
 rw[hab]at hs
 obtain⟨_,hs2,hs3⟩:=List.pairwise_append.1 hs
 have hb:=(List.pairwise_cons.1 hs2).1
 have hget:∀x:Nat×Oper,x.1≠i→(L.setIfInBounds i true).getD x.1 true=L.getD x.1 true:=fun x hx=>q1d (Ne.symm hx) true true
 have hgi:(L.setIfInBounds i true).getD i true=true:=by simp[Array.getD,hsz,hlt]
 have fa:∀l:List (Nat×Oper),(∀x∈l,x.1≠i)→l.filter (fun x=> !(L.setIfInBounds i true).getD x.1 true)=l.filter (fun x=> !L.getD x.1 true):=fun l hl=>
  Qq1 fun x hx=>by rw[hget x (hl x hx)]
 refine⟨a.filter fun x=> !L.getD x.1 true,b.filter fun x=> !L.getD x.1 true,?_,?_⟩
 ·unfold q4k
  rw[hab,Qe1,Ql0]
  simp only[hi,Bool.not_false,if_true]
 ·unfold q4k
  rw[hab,Qe1,Ql0]
  simp only[hgi,Qm1,Qj6,if_false]
  rw[fa a (fun x hx=>by have:=hs3 x hx (i,o) Qb4;simp only at this;omega),fa b (fun x hx=>by have:=hb x hx;simp only at this;omega)]
def x7v (L:Array Bool) (r:Nat):Prop:=r<1000∨∃i,i<1000∧L.getD i false=true∧q1i (1000+i) r=true
theorem q6s {i j r:Nat} (hi:i<1000) (hj:j<1000) (h1:q1i (1000+i) r=true) (h2:q1i (1000+j) r=true):i=j:=by
 simp only[q1i,Qa2]at h1 h2
 have a1:=Qc3 h1.1
 have a2:=Qc3 h2.1
 have b1:=Qb0 h1.2
 have b2:=Qb0 h2.2
 omega
theorem q9f {n r:Nat} (h:q1i n r=true):n≤r:=by
 simp only[q1i,Qa2]at h
 exact Qc3 h.1
theorem z0o.weaken {w0:Base} {G0:Nat→Prop} {n:Nat} {U U':Nat→Prop} {S:St} {a:Act} {W:World} (h:z0o w0 G0 n U S a W) (hU:∀r,U r→U' r):z0o w0 G0 n U' S a W:=by
 obtain⟨h1,h2,g,h3,h4,h5⟩:=h
 exact⟨h1,h2,g,h3,fun r hr=>hU r (h4 r hr),h5⟩
theorem z0o.drew {w0:Base} {G0:Nat→Prop} {n:Nat} {U:Nat→Prop} {S:St} {a:Act} {W:World} (h:z0o w0 G0 n U S a W):z0o w0 G0 n U S a W.drew:=by
 obtain⟨h1,h2,g,rfl,h4,h5,h6⟩:=h
 let g':Gh:=⟨g.W.drew,g.G,g.β,g.U⟩
 have hle:g.le g':=⟨fun _ _=>rfl,fun _ h=>h,fun _ h=>⟨h,rfl⟩⟩
 exact⟨h1,h2,g',rfl,h4,h5.up hle (fun _ _=>rfl) (fun _ h=>.inl h) ⟨h5.bel.os,h5.bel.tape,h5.bel.output,h5.bel.size,h5.bel.block⟩ (Qb8 _),fun i=>Den.mono hle _ _ (h6 i)⟩
section
variable {P:Program} {cx:Cx} {ops:Array Oper} {Q:Exit→Act→World→Prop} {w0:Base} {G0:Nat→Prop} {n:Nat}
theorem k0f {rd:Option Nat} {wt:List Nat} (hwt:k8g ops wt=true) (hsmall:ops.size≤1000) (hcx:q1c P cx) (hed:z3h (q2v 0 ops.toList)=true) (hds:q8q n (q2v 0 ops.toList)=true) {Sf:St} (hQ:∀a W,z0o w0 G0 n (fun _=>True) Sf a W→Q .normal a W):
 ∀(fuel:Nat) (L:Array Bool) (a:Act) (W:World) (S:St) (ps:List Prop) (R:List Rec),L.size=ops.size→Clo .any ops L→(q4k ops L).length=fuel→z0o w0 G0 n (x7v L) S a W→
  q2d cx ops (q4k ops L) S=some (ps,Sf,R)→q4y ops wt R=true→q3n ps→wpAnyIn (FR rd) 3 P .any ops Q fuel L a W:=by
 have hedge:∀i o,ops[i]? =some o→∀e∈o.after,Region.binds .any e=true→e.on<i:=by
  intro i o ho e he hb
  have:=(List.all_eq_true.1 hed) (i,o) (q5g (by simpa using ho))
  have:=Array.all_eq_true_iff_forall_mem.1 this e he
  rw[hb]at this
  simpa using this
 intro fuel
 induction fuel with
 |zero=>
  intro L a W S ps R hsz hclo hlen hsim hrun _ _
  have hnil:=Qc8 hlen
  rw[hnil]at hrun
  simp only[q2d,Option.some.injEq,Prod.mk.injEq]at hrun
  obtain⟨_,rfl,_⟩:=hrun
  refine⟨?_,hQ _ _ (hsim.weaken fun _ _=>trivial)⟩
  cases hr:Region.ready .any ops L with
  |nil=>rfl
  |cons i l=>
   obtain⟨hi,o,ho,_⟩:=mem_ready.1 (show i∈Region.ready .any ops L by rw[hr];exact Qb4)
   obtain⟨l1,l2,e,_⟩:=y5x hsz ho hi
   rw[hnil]at e
   simp at e
 |succ fuel ih=>
  intro L a W S ps R hsz hclo hlen hsim hrun hpair hps
  refine⟨fun hr=>?_,fun i hi=>?_⟩
  ·exfalso
   cases hl:q4k ops L with
   |nil=>rw[hl]at hlen;cases hlen
   |cons x l=>
    obtain⟨i,o⟩:=x
    have hx:(i,o)∈q4k ops L:=by rw[hl];exact Qb4
    have hx':=List.mem_filter.1 hx
    have ho:ops[i]? =some o:=by have:=z2f hx'.1;simpa using this
    have hi:L.getD i true=false:=by simpa using hx'.2
    have hin:i∈Region.ready .any ops L:=by
     refine mem_ready.2 ⟨hi,o,ho,fun e he hb=>?_⟩
     have hlt:=hedge i o ho e he hb
     cases hle:L.getD e.on false with
     |true=>rfl
     |false=>
      exfalso
      have hlt2:i<ops.size:=(Array.getElem?_eq_some_iff.1 ho).1
      have hle2:L.getD e.on true=false:=by
       have:e.on<L.size:=by omega
       simpa[Array.getD,this]using hle
      have hmem:(e.on,ops[e.on])∈q4k ops L:=List.mem_filter.2 ⟨q5g (by simp),by simp[hle2]⟩
      have hso:=List.Pairwise.filter (fun x:Nat×Oper=> !L.getD x.1 true) (q7a ops.toList 0).1
      change (q4k ops L).Pairwise _ at hso
      rw[hl]at hso hmem
      rcases List.mem_cons.1 hmem with e'|e'
      ·cases e';omega
      ·have:=(List.pairwise_cons.1 hso).1 _ e'
       simp only at this
       omega
    rw[hr]at hin
    cases hin
  ·obtain⟨hun,o,ho,hall⟩:=mem_ready.1 hi
   obtain⟨l1,l2,e1,e2⟩:=y5x hsz ho hun
   rw[e1]at hrun
   have hw:∀x∈l1,q8d .any ops x.1 ops.size i=false:=by
    intro x hx
    cases hwx:q8d .any ops x.1 ops.size i with
    |false=>rfl
    |true=>
     exfalso
     have hc2:=hclo.set_ hi
     have hili:(L.setIfInBounds i true).getD i false=true:=by
      have:i<L.size:=by rw[hsz];exact(Array.getElem?_eq_some_iff.1 ho).1
      simp[Array.getD,this]
     have:=q4b hc2 ops.size i hwx hili
     have hx1:x∈q4k ops (L.setIfInBounds i true):=by rw[e2];exact Qd7 _ hx
     have:=(List.mem_filter.1 hx1).2
     have hh:(L.setIfInBounds i true).getD x.1 true=false:=by simpa using this
     have:=q1m hh
     simp_all
   obtain⟨p,v,hs,ps',R',g1,g2,g3,g4,g5,_,_⟩:=z9v hwt (Array.getElem?_eq_some_iff.1 ho).1 hrun hpair hw hps
   have hdi:∀k,o.dst=some k→k<n:=by
    intro k hk
    have:=(List.all_eq_true.1 hds) (i,o) (q5g (by simpa using ho))
    simp only[hk]at this
    simpa using this
   have hi1000:i<1000:=Qc2 (Array.getElem?_eq_some_iff.1 ho).1 hsmall
   have hfresh:∀r,q1i (1000+i) r=true→¬x7v L r:=by
    intro r hr
    rintro(h|⟨j,hj1,hj,h⟩)
    ·have:=q9f hr;omega
    ·have:=q6s hj1 hi1000 h hr
     subst this
     rw[q1m hun]at hj
     cases hj
   unfold wpOpIn
   rw[ho]
   have hstep:=q9p (rd:=rd) (K:=wpAnyIn (FR rd) 3 P .any ops Q fuel (L.setIfInBounds i true)) (Q:=Q) hcx hsim g1 g2 hfresh hdi (fun a' W' hs'=>by
    refine ih (L.setIfInBounds i true) a' W' _ ps' R' (by simpa using hsz) (hclo.set_ hi) ?_ (hs'.weaken ?_) (by rw[e2];exact g3) g5 g4
    ·rw[e1]at hlen
     rw[e2]
     simp at hlen⊢
     omega
    ·rintro r (h|h)
     ·rcases h with h|⟨j,hj1,hj,h⟩
      ·exact .inl h
      ·refine .inr ⟨j,hj1,?_,h⟩
       by_cases hji:i=j
       ·subst hji
        rw[q1m hun]at hj
        cases hj
       ·rw[q1d hji];exact hj
     ·refine .inr ⟨i,hi1000,?_,h⟩
      have:i<L.size:=by rw[hsz];exact(Array.getElem?_eq_some_iff.1 ho).1
      simp[Array.getD,this])
   exact hstep
theorem x4r {rd:Option Nat} (hcx:q1c P cx) {Sf:St} (hQ:∀a W,z0o w0 G0 n (fun _=>True) Sf a W→Q .normal a W):
 ∀(l:List Oper) (k:Nat) (a:Act) (W:World) (S:St) (ps:List Prop),q8q n (q2v k l)=true→z0o w0 G0 n (fun r=>r<1000∨∃i,i<k∧q1i (1000+i) r=true) S a W→k+l.length≤1000→x5k cx ops (q2v k l) S=some (ps,Sf)→q3n ps→
  wpListIn (FR rd) 3 P ops Q l a W:=by
 intro l
 induction l with
 |nil=>
  intro k a W S ps _ hsim _ hrun _
  simp only[q2v,x5k,Option.some.injEq,Prod.mk.injEq]at hrun
  obtain⟨_,rfl⟩:=hrun
  exact hQ _ _ (hsim.weaken fun _ _=>trivial)
 |cons o l ih=>
  intro k a W S ps hds hsim hk hrun hps
  simp only[q2v,x5k]at hrun
  cases hs:q1f cx ops (1000+k) o S with
  |none=>rw[hs]at hrun;cases hrun
  |some t=>
   obtain⟨p,v,hs'⟩:=t
   rw[hs]at hrun
   simp only at hrun
   cases hr2:x5k cx ops (q2v (k+1) l) (S.put o.dst v hs')with
   |none=>rw[hr2]at hrun;cases hrun
   |some t2=>
    obtain⟨q,S'⟩:=t2
    rw[hr2]at hrun
    simp only[Option.some.injEq,Prod.mk.injEq]at hrun
    obtain⟨rfl,rfl⟩:=hrun
    rw[q1w]at hps
    simp only[q2v,q8q,Qj8,Qa2]at hds
    have hdi:∀d,o.dst=some d→d<n:=by
     intro d hd
     have:=hds.1
     simp only[hd]at this
     simpa using this
    have hstep:=q9p (rd:=rd) (K:=wpListIn (FR rd) 3 P ops Q l) (Q:=Q) hcx hsim hs hps.1 (fun r hr hu=>by
     simp only[Qa8]at hk
     rcases hu with hu|⟨i,hi,hu⟩
     ·have:=q9f hr;omega
     ·have:=q6s (by omega) (by omega) hu hr;omega) hdi (fun a' W' hs'=>ih (k+1) a' W' _ q hds.2 (hs'.weaken fun r hr=>by
      rcases hr with(h|⟨i,hi,h⟩)|h
      ·exact .inl h
      ·exact .inr ⟨i,by omega,h⟩
      ·exact .inr ⟨k,by omega,h⟩) (by simp only[Qa8]at hk;omega) hr2 hps.2)
    unfold wpListIn
    exact hstep
end
end
end Go.Proofs.YteikjpbbhopkaaaGreatDoor.En
namespace Go.Proofs.YteikjpbbhopkaaaGreatDoor.En
section
open Go Go.RowKit
inductive RM where
 |to (r:Nat)
 |frz
def k3b:List AV→Option (List IV)
 |[]=>some []
 |.im x::l=>match k3b l with|some m=>some (x::m)|none=>none
 |_::_=>none
def y9a (ρ:List (Nat×RM)) (hp:Nat→Option q0d) (r:Nat):AV:=
 match look r ρ with
 |some (.to r')=>.row r'
 |some .frz=>match hp r with|some (.row _ l)=>.im (.ls l)|_=>.any
 |none=>.any
def y9d (ρ:List (Nat×RM)) (hp:Nat→Option q0d) (r off:Nat):AV:=
 match look r ρ with
 |some (.to r')=>.loc r' off
 |some .frz=>match hp r with|some (.box cs)=>(match k3b cs with|some xs=>.pto (xs.drop off)|none=>.any)|_=>.any
 |none=>.any
mutual
def ren (ρ:List (Nat×RM)) (hp:Nat→Option q0d):AV→AV
 |.any=>.any
 |.im x=>.im x
 |.opt c x=>.opt c (ren ρ hp x)
 |.agg xs=>.agg (y6d ρ hp xs)
 |.tup xs=>.tup (y6d ρ hp xs)
 |.loc r off=>y9d ρ hp r off
 |.pto xs=>.pto xs
 |.row r=>y9a ρ hp r
 |.prow _ _ _=>.any
 |.clo f xs=>.clo f (y6d ρ hp xs)
 |.err b=>.err b
def y6d (ρ:List (Nat×RM)) (hp:Nat→Option q0d):List AV→List AV
 |[]=>[]
 |x::l=>ren ρ hp x::y6d ρ hp l
end
def u5y (ρ:List (Nat×RM)) (hp:Nat→Option q0d):q0d→q0d
 |.box cs=>.box (y6d ρ hp cs)
 |.row e l=>.row e l
 |.other b o=>.other b o
 |.mset ks=>.mset ks
 |.mfun ks cs=>.mfun ks (y6d ρ hp cs)
def q1y (ρ:List (Nat×RM)) (hp:Nat→Option q0d):List (Nat×RM)→List (Nat×q0d)
 |[]=>[]
 |(r,.to r')::l=>match hp r with|some o=>(r',u5y ρ hp o)::q1y ρ hp l|none=>q1y ρ hp l
 |(_,.frz)::l=>q1y ρ hp l
def q4d (ρ:List (Nat×RM)) (S:St):List Nat→List (Nat×AV)
 |[]=>[]
 |i::l=>(i,ren ρ S.heap (S.env i))::q4d ρ S l
def tos:List (Nat×RM)→List Nat
 |[]=>[]
 |(_,.to r)::l=>r::tos l
 |(_,.frz)::l=>tos l
def nodup:List Nat→Bool
 |[]=>true
 |r::l=> !q5q r l&&nodup l
def z0j (m:Nat) (ρ:List (Nat×RM)):Bool:=nodup (tos ρ)&&(tos ρ).all (fun r=>Nat.blt r 1000)&&nodup (ρ.map (·.1))&&ρ.all fun x=>match x.2 with|.to r=>Nat.ble m r||Nat.beq x.1 r|.frz=>true
section
variable {ρ:List (Nat×RM)} {hp:Nat→Option q0d}
theorem q1p {α:Type} {k:Nat} {x:α}:∀{l:List (Nat×α)},look k l=some x→(k,x)∈l
 |[],h=>by cases h
 |(j,y)::l,h=>by
  unfold look at h
  by_cases e:j=k
  ·subst e;rw[q6x]at h;simp only[cond_true,Option.some.injEq]at h;rw[h];exact Qb4
  ·rw[q4x e]at h;exact Qb7 _ (q1p h)
theorem z5z {α:Type} {k:Nat} {x:α}:∀{l:List (Nat×α)},nodup (l.map (·.1))=true→(k,x)∈l→look k l=some x
 |[],_,h=>by cases h
 |(j,y)::l,hn,h=>by
  simp only[Qc6,nodup,Qa2]at hn
  unfold look
  rcases List.mem_cons.1 h with e|e
  ·cases e;rw[q6x];rfl
  ·have hne:j≠k:=fun he=>by
    subst he
    have:q5q j (l.map (·.1))=true:=q1v.2 (List.mem_map.2 ⟨_,e,rfl⟩)
    rw[this]at hn
    cases hn.1
   rw[q4x hne]
   exact z5z hn.2 e
theorem z9z {r r':Nat}:∀{l:List (Nat×RM)},(r,RM.to r')∈l→r'∈tos l
 |[],h=>by cases h
 |(j,m)::l,h=>by
  rcases List.mem_cons.1 h with e|e
  ·cases e;exact Qb4
  ·cases m with
   |to k=>exact Qb7 _ (z9z e)
   |frz=>exact z9z (l:=l) e
theorem x9t {r1 r2 r':Nat}:∀{l:List (Nat×RM)},nodup (tos l)=true→(r1,RM.to r')∈l→(r2,RM.to r')∈l→r1=r2
 |[],_,h,_=>by cases h
 |(j,m)::l,hn,h1,h2=>by
  rcases List.mem_cons.1 h1 with e1|e1<;>rcases List.mem_cons.1 h2 with e2|e2
  ·cases e1;cases e2;rfl
  ·cases e1
   simp only[tos,nodup,Qa2]at hn
   have:=q1v.2 (z9z e2)
   rw[this]at hn
   cases hn.1
  ·cases e2
   simp only[tos,nodup,Qa2]at hn
   have:=q1v.2 (z9z e1)
   rw[this]at hn
   cases hn.1
  ·cases m with
   |to k=>simp only[tos,nodup,Qa2]at hn;exact x9t hn.2 e1 e2
   |frz=>exact x9t (l:=l) hn e1 e2
theorem j8v {g:Gh}:∀{cs:List AV} {xs:List IV} {us:List Value},k3b cs=some xs→q0e g cs us→∀(j:Nat) (x:IV),xs[j]? =some x→∃u,us[j]? =some u∧Rep g.W g.G x u
 |[],xs,us,h,_,j,x,hx=>by cases h;simp at hx
 |c::cs,xs,us,h,hd,j,x,hx=>by
  cases c with
  |im y=>
   simp only[k3b]at h
   cases hm:k3b cs with
   |none=>rw[hm]at h;cases h
   |some m=>
    rw[hm]at h
    cases h
    simp only[q0e]at hd
    obtain⟨u,us',rfl,h1,h2⟩:=hd
    rcases j with _|j
    ·simp at hx;subst hx;exact⟨u,rfl,by simpa only[Den]using h1⟩
    ·exact(j8v hm h2 j x (by simpa using hx)).imp fun u h=>⟨by simpa using h.1,h.2⟩
  |_=>cases h
theorem k1v {W:World} {G:Nat→Prop} {e:Nat} {v:Value} {xs:List Value} {l:LD} (ho:Own W e v xs) (hl:xs.length=l.len) (hmx:l.len≤maxLen) (hst:l.st=1)
 (hc:∀i,i<l.len→Rep W G (l.cell i 0) (xs.getD i undef)) (hG:∀b,q1k v=some b→G b):Rep W G (.ls l) v:=by
 rcases ho with⟨rfl,hx⟩|⟨b,off,cap,cur,rfl,hw,h1,h2,h3,h4⟩
 ·exact .nil l none 0 (by rw[←hl,hx];rfl)
 ·rw[hl]
  refine .ls l b off cap (fun i _=>xs.getD i undef) (by omega) hmx (hG b rfl) (fun i j hi hj=>?_) (fun i j hi hj=>?_)
  ·have hj0:j=0:=by omega
   subst hj0
   rw[hst,Qf6,Qd9,hw.cell (off+i),h4 i (by omega)]
   simp[List.getD,Qa0 (show i<xs.length by omega)]
  ·have hj0:j=0:=by omega
   subst hj0
   exact hc i hi
theorem u1v {W:World} {G:Nat→Prop} {e:Nat} {v:Value} {xs:List Value} {l:LD} (ho:q5a W e l.st v l.len xs) (hmx:l.len≤maxLen)
 (hc:∀i j,i<l.len→j<l.st→Rep W G (l.cell i j) (xs.getD (i*l.st+j) undef)) (hG:∀b,q1k v=some b→G b):Rep W G (.ls l) v:=by
 rcases ho.cells with⟨hv,hn⟩|⟨b,off,cap,hv,h5,h6⟩
 ·rw[hv];exact .nil l none 0 hn
 ·have hlen:=ho.len
  have hg:=hG b (by rw[hv];rfl)
  rw[hv]
  refine .ls l b off cap (fun i j=>xs.getD (i*l.st+j) undef) h5 hmx hg (fun i j hi hj=>?_) hc
  have hlt:i*l.st+j<xs.length:=by rw[hlen];exact x6a hi hj
  have:=h6 _ hlt
  rw[←Qg5]at this
  rw[this]
  simp[List.getD,Qa0 hlt]
def q8a (ρ:List (Nat×RM)) (hp:Nat→Option q0d):Bool:=ρ.all fun x=>(hp x.1).isSome
theorem z5a {ρ l:List (Nat×RM)} {hp:Nat→Option q0d} {r r':Nat} {o:q0d} (ho:hp r=some o):(r,RM.to r')∈l→(look r' (q1y ρ hp l)).isSome=true:=by
 induction l with
 |nil=>intro h;cases h
 |cons x l ih=>
  intro h
  obtain⟨j,m⟩:=x
  rcases List.mem_cons.1 h with e|e
  ·cases e
   simp only[q1y,ho,look]
   rw[q6x]
   rfl
  ·cases m with
   |frz=>exact ih e
   |to k=>
    simp only[q1y]
    split
    ·unfold look
     by_cases hk:k=r'
     ·subst hk;rw[q6x];rfl
     ·rw[q4x hk];exact ih e
    ·exact ih e
theorem z8s {ρ:List (Nat×RM)} {S:St} {keys:List Nat} (i:Nat):q1t (q4d ρ S keys) i=.any∨q1t (q4d ρ S keys) i=ren ρ S.heap (S.env i):=by
 unfold q1t
 cases hl:look i (q4d ρ S keys)with
 |none=>exact .inl rfl
 |some x=>
  right
  have hmem:=q1p hl
  clear hl
  induction keys with
  |nil=>cases hmem
  |cons k l ih=>
   rcases List.mem_cons.1 hmem with e|e
   ·cases e;rfl
   ·exact ih e
theorem q5n {ρ:List (Nat×RM)} {hp:Nat→Option q0d} {r':Nat} {o':q0d}:∀{l:List (Nat×RM)},(r',o')∈q1y ρ hp l→∃r o,(r,RM.to r')∈l∧hp r=some o∧o'=u5y ρ hp o
 |[],h=>by cases h
 |(r,.frz)::l,h=>by
  obtain⟨r0,o,h1,h2⟩:=q5n (l:=l) h
  exact⟨r0,o,Qb7 _ h1,h2⟩
 |(r,.to k)::l,h=>by
  simp only[q1y]at h
  cases ho:hp r with
  |none=>
   rw[ho]at h
   obtain⟨r0,o,h1,h2⟩:=q5n (l:=l) h
   exact⟨r0,o,Qb7 _ h1,h2⟩
  |some o=>
   rw[ho]at h
   rcases List.mem_cons.1 h with e|e
   ·cases e;exact⟨r,o,Qb4,ho,rfl⟩
   ·obtain⟨r0,o,h1,h2⟩:=q5n (l:=l) e
    exact⟨r0,o,Qb7 _ h1,h2⟩
theorem x3e {ρ:List (Nat×RM)} {hp:Nat→Option q0d} {r':Nat} {o':q0d} (hn:nodup (ρ.map (·.1))=true) (h:look r' (q1y ρ hp ρ)=some o'):∃r o,look r ρ=some (.to r')∧hp r=some o∧o'=u5y ρ hp o:=by
 obtain⟨r,o,h1,h2,h3⟩:=q5n (q1p h)
 exact⟨r,o,z5z hn h1,h2,h3⟩
theorem z0o.renG {w0:Base} {G0:Nat→Prop} {n:Nat} {U:Nat→Prop} {S:St} {a:Act} {W:World} (h:z0o w0 G0 n U S a W) (hm1000:w0.m≤1000) (hρ:z0j w0.m ρ=true) {env':Nat→AV} {hp':Nat→Option q0d} (he:∀i,env' i=.any∨env' i=ren ρ S.heap (S.env i))
 (hh:∀r' o',hp' r'=some o'→∃r o,look r ρ=some (.to r')∧S.heap r=some o∧o'=u5y ρ S.heap o) (hi:∀r r',look r ρ=some (.to r')→(hp' r').isSome=true):
 z0o w0 G0 n (fun r=>r<1000∧(r<w0.m∨(hp' r).isSome=true)) ⟨env',hp'⟩ a W:=by
 obtain⟨hsz,hdf,g,rfl,hU,hm,henv⟩:=h
 simp only[z0j,Qa2]at hρ
 obtain⟨⟨⟨hn1,hlt⟩,hn2⟩,hanc⟩:=hρ
 have hanc':∀r r',look r ρ=some (.to r')→r'<w0.m→r=r':=by
  intro r r' hr hlt'
  have:=(List.all_eq_true.1 hanc) _ (q1p hr)
  simp only[Qd2]at this
  rcases this with h1|h1
  ·have:=Qc3 h1;omega
  ·exact Qb0 h1
 let g':Gh:=⟨g.W,fun b=>g.G b∨∃r o,look r ρ=some .frz∧S.heap r=some o∧q1k (g.β r)=some b,
  fun r'=>if r'<w0.m then w0.β r' else match ρ.find? (fun x=>match x.2 with|.to k=>Nat.beq k r'|.frz=>false)with|some x=>g.β x.1|none=>undef,fun r'=>r'<w0.m∨∃r,look r ρ=some (.to r')∧g.U r⟩
 have hβ:∀r r',look r ρ=some (.to r')→g'.β r'=g.β r:=by
  intro r r' hr
  show(if r'<w0.m then w0.β r' else match ρ.find? (fun x=>match x.2 with|.to k=>Nat.beq k r'|.frz=>false)with|some x=>g.β x.1|none=>undef)=g.β r
  by_cases hrm:r'<w0.m
  ·rw[if_pos hrm,hanc' r r' hr hrm,(hm.anc.1 r' hrm).2]
  rw[if_neg hrm]
  cases hf:ρ.find? (fun x=>match x.2 with|.to k=>Nat.beq k r'|.frz=>false)with
  |none=>
   have:=List.find?_eq_none.1 hf (r,.to r') (q1p hr)
   simp at this
  |some x=>
   obtain⟨r2,m⟩:=x
   have hx:=List.find?_some hf
   have hmem:=List.mem_of_find?_eq_some hf
   cases m with
   |frz=>simp at hx
   |to k=>
    have:k=r':=Qb0 hx
    subst this
    simp only
    rw[x9t hn1 hmem (q1p hr)]
 have hrep:∀{x:IV} {v:Value},Rep g.W g.G x v→Rep g'.W g'.G x v:=fun h=>h.mono (fun _ _=>rfl) (fun _ h=>.inl h)
 have hrow:∀r v,Den g (.row r) v→Den g' (y9a ρ S.heap r) v:=by
  intro r v hd
  simp only[Den]at hd
  obtain⟨hu,rfl,hform⟩:=hd
  unfold y9a
  split
  ·rename_i r' hr
   simp only[Den]
   exact⟨.inr ⟨r,hr,hu⟩,(hβ r r' hr).symm,hform⟩
  ·rename_i hr
   split
   ·rename_i e l hl
    obtain⟨_,xs,ho,h2,h4⟩:=hm.ok r _ hl
    simp only[Den]
    exact u1v ho h2 (fun i j hi hj=>hrep (h4 i j hi hj)) (fun b hb=>.inr ⟨r,_,hr,hl,hb⟩)
   ·simp only[Den]
  ·simp only[Den]
 have hloc:∀r off v,Den g (.loc r off) v→Den g' (y9d ρ S.heap r off) v:=by
  intro r off v hd
  simp only[Den]at hd
  obtain⟨hu,b,hb,rfl⟩:=hd
  unfold y9d
  split
  ·rename_i r' hr
   simp only[Den]
   exact⟨.inr ⟨r,hr,hu⟩,b,(hβ r r' hr).trans hb,rfl⟩
  ·rename_i hr
   split
   ·rename_i cs hl
    split
    ·rename_i xs hxs
     obtain⟨_,b',t,arr,hb',hw,hdl⟩:=hm.ok r _ hl
     rw[hb]at hb'
     cases hb'
     simp only[Den]
     refine⟨b,off,rfl,.inr ⟨r,_,hr,hl,by rw[hb];rfl⟩,fun j x hx=>?_⟩
     rw[Qh4]at hx
     obtain⟨u,hu1,hu2⟩:=j8v hxs hdl (off+j) x hx
     exact⟨u,by rw[cell_of_row g.W b (off+j) arr t (0,0) hw];simpa using hu1,hrep hu2⟩
    ·simp only[Den]
   ·simp only[Den]
  ·simp only[Den]
 have hd1:∀x v,Den g x v→Den g' (Go.Proofs.YteikjpbbhopkaaaGreatDoor.En.ren ρ S.heap x) v:=by
  intro x
  refine AV.rec (motive_1:=fun x=>∀v,Den g x v→Den g' (Go.Proofs.YteikjpbbhopkaaaGreatDoor.En.ren ρ S.heap x) v) (motive_2:=fun xs=>∀vs,q0e g xs vs→q0e g' (y6d ρ S.heap xs) vs) ?_ ?_ ?_ ?_ ?_ ?_ ?_ ?_ ?_ ?_ ?_ ?_ ?_ x
  ·intro v _;simp only[Go.Proofs.YteikjpbbhopkaaaGreatDoor.En.ren,Den]
  ·intro x v hd;simp only[Go.Proofs.YteikjpbbhopkaaaGreatDoor.En.ren,Den]at hd⊢;exact hrep hd
  ·intro c x ih v hd;simp only[Go.Proofs.YteikjpbbhopkaaaGreatDoor.En.ren,Den]at hd⊢;exact⟨fun hc=>ih v (hd.1 hc),hd.2⟩
  ·intro xs ih v hd;simp only[Go.Proofs.YteikjpbbhopkaaaGreatDoor.En.ren,Den]at hd⊢;obtain⟨vs,e,hl⟩:=hd;exact⟨vs,e,ih vs hl⟩
  ·intro xs ih v hd;simp only[Go.Proofs.YteikjpbbhopkaaaGreatDoor.En.ren,Den]at hd⊢;obtain⟨vs,e,hl⟩:=hd;exact⟨vs,e,ih vs hl⟩
  ·intro r off v hd;simp only[Go.Proofs.YteikjpbbhopkaaaGreatDoor.En.ren];exact hloc r off v hd
  ·intro xs v hd
   simp only[Go.Proofs.YteikjpbbhopkaaaGreatDoor.En.ren,Den]at hd⊢
   obtain⟨b,off,e,hG,hc⟩:=hd
   exact⟨b,off,e,.inl hG,fun j x hx=>(hc j x hx).imp fun u h=>⟨h.1,hrep h.2⟩⟩
  ·intro r v hd;simp only[Go.Proofs.YteikjpbbhopkaaaGreatDoor.En.ren];exact hrow r v hd
  ·intro r i j v _;simp only[Go.Proofs.YteikjpbbhopkaaaGreatDoor.En.ren,Den]
  ·intro f xs ih v hd;simp only[Go.Proofs.YteikjpbbhopkaaaGreatDoor.En.ren,Den]at hd⊢;obtain⟨vs,e,hl⟩:=hd;exact⟨vs,e,ih vs hl⟩
  ·intro b v hd;simp only[Go.Proofs.YteikjpbbhopkaaaGreatDoor.En.ren,Den]at hd⊢;exact hd
  ·intro vs hd;simpa only[y6d,q0e]using hd
  ·intro x l ih1 ih2 vs hd;simp only[y6d,q0e]at hd⊢;obtain⟨v,vs',e,h1,h2⟩:=hd;exact⟨v,vs',e,ih1 v h1,ih2 vs' h2⟩
 have hd2:∀xs vs,q0e g xs vs→q0e g' (y6d ρ S.heap xs) vs:=by
  intro xs
  induction xs with
  |nil=>intro vs hd;simpa only[y6d,q0e]using hd
  |cons x l ih=>
   intro vs hd
   simp only[y6d,q0e]at hd⊢
   obtain⟨v,vs',e,h1,h2⟩:=hd
   exact⟨v,vs',e,hd1 x v h1,ih vs' h2⟩
 have hheap:=hh
 refine⟨hsz,hdf,g',rfl,?_,⟨?_,?_,?_,?_,hm.bel,fun r hr=>⟨.inl hr,if_pos hr⟩,fun k xs hk=>⟨.inl (hm.anc.2 k xs hk).1,(hm.anc.2 k xs hk).2⟩⟩,?_⟩
 ·rintro r' (hr|⟨r,hr,_⟩)
  ·exact⟨by omega,.inl hr⟩
  have:=(List.all_eq_true.1 hlt) r' (z9z (q1p hr))
  exact⟨by simpa using this,.inr (hi r r' hr)⟩
 ·intro r' o' hl
  obtain⟨r,o,hr,ho,rfl⟩:=hheap r' o' hl
  obtain⟨hu,hok⟩:=hm.ok r o ho
  rw[hβ r r' hr]
  refine⟨.inr ⟨r,hr,hu⟩,?_⟩
  cases o with
  |box cs=>
   obtain⟨b,t,arr,hb,hw,hd⟩:=hok
   exact⟨b,t,arr,hb,hw,hd2 _ _ hd⟩
  |other b o=>exact hok
  |mset ks=>exact hok
  |mfun ks cs=>
   obtain⟨b,us,hb,hl,hw,hd⟩:=hok
   exact⟨b,us,hb,hl,hw,hd2 _ _ hd⟩
  |row e l=>
   obtain⟨xs,ho',h2,h4⟩:=hok
   exact⟨xs,ho',h2,fun i j hi hj=>hrep (h4 i j hi hj)⟩
 ·intro r1 r2 o1 o2 b hl1 hl2 hb1 hb2
  obtain⟨s1,p1,hr1,ho1,_⟩:=hheap r1 o1 hl1
  obtain⟨s2,p2,hr2,ho2,_⟩:=hheap r2 o2 hl2
  rw[hβ s1 r1 hr1]at hb1
  rw[hβ s2 r2 hr2]at hb2
  have:=hm.sep s1 s2 p1 p2 b ho1 ho2 hb1 hb2
  subst this
  rw[hr1]at hr2
  cases hr2
  rfl
 ·intro r' o' b hl hb
  obtain⟨r,o,hr,ho,_⟩:=hheap r' o' hl
  rw[hβ r r' hr]at hb
  refine⟨?_,(hm.own r o b ho hb).2⟩
  rintro(h|⟨r2,o2,hf,ho2,hb2⟩)
  ·exact(hm.own r o b ho hb).1 h
  ·have:=hm.sep r r2 o o2 b ho ho2 hb hb2
   subst this
   rw[hr]at hf
   cases hf
 ·rintro b (h|⟨r,o,_,ho,hb⟩)
  ·exact hm.gb b h
  ·exact⟨(hm.ok r o ho).2.lt hb,.inr (hm.own r o b ho hb).2⟩
 ·intro i
  rcases he i with e|e
  ·show Den g' (env' i) _;rw[e];simp only[Den]
  ·show Den g' (env' i) _;rw[e];exact hd1 _ _ (henv i)
theorem z0o.ren {w0:Base} {G0:Nat→Prop} {n:Nat} {U:Nat→Prop} {S:St} {a:Act} {W:World} (h:z0o w0 G0 n U S a W) (hm1000:w0.m≤1000) (hρ:z0j w0.m ρ=true) (hlv:q8a ρ S.heap=true) (keys:List Nat):
 z0o w0 G0 n (fun r=>r<1000∧(r<w0.m∨(look r (q1y ρ S.heap ρ)).isSome=true)) (q5i (q4d ρ S keys) (q1y ρ S.heap ρ)) a W:=by
 have hn2:nodup (ρ.map (·.1))=true:=by simp only[z0j,Qa2]at hρ;exact hρ.1.2
 refine h.renG hm1000 hρ (env':=q1t (q4d ρ S keys)) (hp':=fun r=>look r (q1y ρ S.heap ρ)) (fun i=>z8s i) (fun r' o' hl=>x3e hn2 hl) (fun r r' hr=>?_)
 obtain⟨o,ho⟩:=Option.isSome_iff_exists.1 ((List.all_eq_true.1 hlv) _ (q1p hr))
 exact z5a ho (q1p hr)
end
end
end Go.Proofs.YteikjpbbhopkaaaGreatDoor.En
namespace Go.Proofs.YteikjpbbhopkaaaGreatDoor.En
section
open Go Go.RowKit
structure Ct where
 P:Program
 cx:Cx
 w0:Base
 G0:Nat→Prop
 n:Nat
 rnd:Option Nat
abbrev Env:=List (Nat×AV)
abbrev Hp:=List (Nat×q0d)
def Sim (k:Ct) (E:Env) (H:Hp) (a:Act) (W:World):Prop:=z0o k.w0 k.G0 k.n (fun r=>r<1000∧(r<k.w0.m∨(look r H).isSome=true)) (q5i E H) a W
theorem Sim.m_le {k:Ct} {E:Env} {H:Hp} {a:Act} {W:World} (h:Sim k E H a W):k.w0.m≤1000:=by
 obtain⟨_,_,g,_,hU,hm,_⟩:=h
 rcases Qj7 k.w0.m with h0|h0
 ·omega
 ·have:=(hU _ (hm.anc.1 (k.w0.m-1) (by omega)).1).1
  omega
def Tri (k:Ct) (E:Env) (H:Hp) (c:Code) (Q:Exit→Act→World→Prop):Prop:=∀a W,Sim k E H a W→Wp k.rnd k.P c Q a W
def Fin (k:Ct) (E:Env) (H:Hp) (Q:Exit→Act→World→Prop) (e:Exit):Prop:=∀a W,Sim k E H a W→Q e a W
section
variable {k:Ct} {E E':Env} {H H':Hp} {Q:Exit→Act→World→Prop} {ops:Array Oper} {id:Nat} {ρ:List (Nat×RM)} {keys:List Nat} {ps:List Prop}
theorem y3w {x y:Code} (h:Tri k E H x (Exit.then (Wp k.rnd k.P y Q) Q)):Tri k E H (.seq x y) Q:=fun a W hs=>wpIn_seq (h a W hs)
theorem k3u {c:Code} (h:Tri k E H c (Exit.inBlock id Q)):Tri k E H (.block id c) Q:=fun a W hs=>wpIn_block (h a W hs)
theorem q4l {P:Program} {b:Frame} {a:Act} {kk:List Item} {cs:List Frame} {w:World} {c:Code}:step P (lone (b.atR a (.code (.scope c)::kk)) cs w)=.next (lone (b.atR a (.code c::.inScope c::kk)) cs w):=
 step_lone_go (by simp[stepG,stepG.exec,Frame.atR])
theorem j6f {P:Program} {b:Frame} {a:Act} {kk:List Item} {cs:List Frame} {w:World} {c:Code}:step P (lone (b.atR a (.inScope c::kk)) cs w)=.next (lone (b.atR a kk) cs w):=
 step_lone_go (by simp[stepG,stepG.exec,Frame.atR])
theorem x4x {F:Fence} {n:Nat} {P:Program} {Q:Exit→Act→World→Prop} {a:Act} {w:World} {c:Code} (h:c.wpIn F n P (Exit.noGoto Q) a w):(Code.scope c).wpIn F n P Q a w:=by
 intro b kk cs hro hb hr
 have h0:(lone (b.atR a (.code (.scope c)::kk)) cs w).fenced P F:=fenced_calm hb hr rfl
 obtain⟨e,a₁,w₁,hq,harr⟩:=h b (.inScope c::kk) cs hro hb hr
 have hx:∀id,exitTo id (.inScope c::kk)=exitTo id kk:=fun id=>by simp[exitTo]
 cases e with
 |normal=>exact⟨.normal,a₁,w₁,hq,.head h0 q4l (StepsIn.trans harr (.one (fenced_calm hb hr rfl) j6f))⟩
 |exit id=>exact⟨.exit id,a₁,w₁,hq,fun k' hk=>.head h0 q4l (harr.1 k' (by rw[hx];exact hk)),fun hr' hk=>let⟨k₁,h1,h2⟩:=harr.2 hr' (by rw[hx];exact hk);⟨k₁,h1,.head h0 q4l h2⟩⟩
 |goto l=>exact hq.elim
 |ret=>exact⟨_,a₁,w₁,hq,.of_steps (.one h0 q4l) harr⟩
 |panic ch=>exact⟨_,a₁,w₁,hq,.of_steps (.one h0 q4l) harr⟩
 |outgrown=>exact⟨_,a₁,w₁,hq,.of_steps (.one h0 q4l) harr⟩
theorem x8y {c:Code} (h:Tri k E H c (Exit.noGoto Q)):Tri k E H (.scope c) Q:=fun a W hs=>x4x (h a W hs)
theorem k4b {l:Nat} (h:Fin k E H Q .normal):Tri k E H (.label l) Q:=fun a W hs=>wpIn_label (h a W hs)
theorem k5y (h:Fin k E H Q .normal):Tri k E H .skip Q:=fun a W hs=>wpIn_skip (h a W hs)
theorem k6r (h:Fin k E H Q (.exit id)):Tri k E H (.exit id) Q:=fun a W hs=>wpIn_exit (h a W hs)
theorem u2q (h:Fin k E H Q .ret):Tri k E H .ret Q:=fun a W hs=>wpIn_ret (h a W hs)
theorem z6e {c:Operand} {x y:Code} {b:Bool} (hc:(q5i E H).ev c=.im (.val (.bool b))) (ht:b=true→Tri k E H x Q) (hf:b=false→Tri k E H y Q):Tri k E H (.cond c x y) Q:=fun a W hs=>by
 obtain⟨_,_,g,_,_,hm,henv⟩:=id hs
 have hd:=y0x hm.anc.2 henv c
 rw[hc]at hd
 exact wpIn_cond_split (q0b hd) (fun h=>ht h a W hs) (fun h=>hf h a W hs)
theorem x0m {y:Code} {Q1 Q2:Exit→Act→World→Prop} (h:Tri k E H y Q1):Fin k E H (Exit.then (Wp k.rnd k.P y Q1) Q2) .normal:=h
theorem j0g (h:Fin k E H Q .normal):Fin k E H (Exit.inBlock id Q) (.exit id):=fun a W hs=>by
 show(if id=id then Q .normal a W else Q (.exit id) a W)
 rw[if_pos rfl]
 exact h a W hs
theorem z6k {j:Nat} (hne:Nat.beq j id=false) (h:Fin k E H Q (.exit j)):Fin k E H (Exit.inBlock id Q) (.exit j):=fun a W hs=>by
 show(if j=id then Q .normal a W else Q (.exit j) a W)
 rw[if_neg (fun e=>by rw[e,q6x]at hne;cases hne)]
 exact h a W hs
def x4k (E E':Env):Prop:=E'.map (fun x=>q1t E x.1)=E'.map (·.2)
theorem u1m {b:Bool} (h:(!b)=true):b=false:=by cases b<;>simp_all
theorem k1y {b:Bool} (h:(!b)=false):b=true:=by cases b<;>simp_all
theorem u6l {a b:Int} (h:(a !=b)=false):a=b:=by simpa using h
theorem q0f {a a':AV} {l l':List AV} (h:a=a') (h':l=l'):a::l=a'::l':=by rw[h,h']
def q5u (P:Program):List (Nat×TD)→Prop
 |[]=>True
 |(t,td)::l=>z4y P t td∧q5u P l
def x7h (P:Program):List (Nat×CtF)→Prop
 |[]=>True
 |(f,σ)::l=>q0c P f σ∧x7h P l
theorem q5u.get {P:Program}:∀{l:List (Nat×TD)},q5u P l→∀t td,(t,td)∈l→z4y P t td
 |(_,_)::_,h,t,td,hm=>by
  rcases List.mem_cons.1 hm with e|e
  ·cases e;exact h.1
  ·exact q5u.get h.2 t td e
theorem x7h.get {P:Program}:∀{l:List (Nat×CtF)},x7h P l→∀f σ,(f,σ)∈l→q0c P f σ
 |(_,_)::_,h,f,σ,hm=>by
  rcases List.mem_cons.1 hm with e|e
  ·cases e;exact h.1
  ·exact x7h.get h.2 f σ e
theorem q0s {P:Program} {ty:List (Nat×TD)} {fn:List (Nat×CtF)} (h1:q5u P ty) {m:Bool} (h2:x7h P fn):q1c P ⟨ty,fn,m⟩:=⟨fun t td h=>h1.get t td (q1p h),fun f σ h=>h2.get f σ (q1p h)⟩
theorem k8y {E E':Env} (h:x4k E E') {i:Nat} {x:AV} (hx:look i E'=some x):q1t E i=x:=by
 unfold x4k at h
 have hmem:=q1p hx
 have key:∀l:Env,l.map (fun x=>q1t E x.1)=l.map (·.2)→(i,x)∈l→q1t E i=x:=by
  intro l
  induction l with
  |nil=>intro _ h;cases h
  |cons y l ih=>
   intro hl hm
   simp only[Qc6,List.cons.injEq]at hl
   rcases List.mem_cons.1 hm with e|e
   ·rw[←e]at hl;exact hl.1
   ·exact ih hl.2 e
 exact key E' h hmem
theorem Sim.sub {a:Act} {W:World} (h:Sim k E H a W) (hE:x4k E E'):Sim k E' H a W:=by
 obtain⟨h1,h2,g,h3,h4,h5,h6⟩:=h
 refine⟨h1,h2,g,h3,h4,h5,fun i=>?_⟩
 show Den g (q1t E' i) _
 unfold q1t
 cases hl:look i E' with
 |none=>simp only[Den]
 |some x=>
  have:=h6 i
  change Den g (q1t E i) _ at this
  rw[k8y hE hl]at this
  exact this
def k7r (k:Ct) {X:Type} (I:X→Prop) (E:X→Env) (H:X→Hp) (μ:X→Nat) (x:X) (a:Act) (W:World):Prop:=∃y,I y∧μ y<μ x∧Sim k (E y) (H y) a W
theorem exists_least {p:Nat→Prop} (h:∃m,p m):∃m,p m∧∀j,p j→m≤j:=by
 obtain⟨m,hm⟩:=h
 induction m using Nat.strongRecOn with
 |_ m ih=>
  by_cases hx:∃j,j<m∧p j
  ·obtain⟨j,hj,hp⟩:=hx
   exact ih j hj hp
  ·exact⟨m,hm,fun j hj=>by
    rcases Qi7 j m with h|h
    ·exact absurd ⟨j,h,hj⟩ hx
    ·exact h⟩
theorem k6q {X:Type} (I:X→Prop) (EL:X→Env) (HL:X→Hp) (μ:X→Nat) (x0:X) {c:Code} (h0:I x0) (hE:x4k E (EL x0)) (hH:H=HL x0)
 (round:∀x,I x→Tri k (EL x) (HL x) c (Exit.then (k7r k I EL HL μ x) Q)):Tri k E H (.loop c) Q:=by
 intro a W hs
 have hJ:∃x,I x∧Sim k (EL x) (HL x) a W:=⟨x0,h0,by rw[←hH];exact hs.sub hE⟩
 refine wpIn_loop (fun a W=>∃x,I x∧Sim k (EL x) (HL x) a W) (fun a W=>by
  classical
  exact if h:∃m,∃x,I x∧Sim k (EL x) (HL x) a W∧μ x=m then Classical.choose (exists_least h)else 0) hJ fun a W hx=>?_
 classical
 have hex:∃m,∃x,I x∧Sim k (EL x) (HL x) a W∧μ x=m:=let⟨x,h1,h2⟩:=hx;⟨_,x,h1,h2,rfl⟩
 obtain⟨⟨x,h1,h2,h3⟩,_⟩:=Classical.choose_spec (exists_least hex)
 refine wpIn_mono (round x h1 a W h2) fun e a' W' hq=>?_
 cases e with
 |normal=>
  obtain⟨y,g1,g2,g3⟩:=hq
  refine⟨⟨y,g1,g3⟩,?_⟩
  have hex':∃m,∃x,I x∧Sim k (EL x) (HL x) a' W'∧μ x=m:=⟨_,y,g1,g3,rfl⟩
  rw[dif_pos hex',dif_pos hex]
  have:=(Classical.choose_spec (exists_least hex')).2 _ ⟨y,g1,g3,rfl⟩
  omega
 |_=>exact hq
theorem x6f {X:Type} {I:X→Prop} {EL:X→Env} {HL:X→Hp} {μ:X→Nat} {x:X} (y:X) (hI:I y) (hμ:μ y<μ x) (hE:x4k E (EL y)) (hH:H=HL y):Fin k E H (Exit.then (k7r k I EL HL μ x) Q) .normal:=
 fun a W hs=>⟨y,hI,hμ,by rw[←hH];exact hs.sub hE⟩
end
section
variable {k:Ct} {E E':Env} {H:Hp} {Q:Exit→Act→World→Prop} {c:Code}
def u8k (i:Nat) (l:LD) (E:Env):Env:=E.map fun x=>bif Nat.beq x.1 i then(match x.2 with|.im (.val (.slice none 0 0))=>(x.1,.im (.ls l))|_=>x)else x
theorem j7s {f:Nat×AV→Nat×AV} (hf:∀x,(f x).1=x.1):∀{l:Env} {i:Nat},look i (l.map f)=(look i l).map fun v=>(f (i,v)).2
 |[],i=>rfl
 |(j,v)::l,i=>by
  simp only[Qc6]
  have h1:=hf (j,v)
  obtain⟨a,b,hb'⟩:∃a b,f (j,v)=(a,b):=⟨_,_,rfl⟩
  rw[hb']at h1⊢
  simp only at h1
  subst h1
  unfold look
  by_cases e:a=i
  ·subst e
   rw[q6x]
   simp only[cond_true,Qg1]
   rw[hb']
  ·rw[q4x e]
   simp only[cond_false]
   exact j7s hf
theorem u3r (i:Nat) (l:LD) (hl:Nat.beq l.len 0=true) (hE:u8k i l E=E') {a:Act} {W:World} (hs:Sim k E H a W):Sim k E' H a W:=by
 subst hE
 obtain⟨h1,h2,g,h3,h4,h5,h6⟩:=hs
 refine⟨h1,h2,g,h3,h4,h5,fun j=>?_⟩
 have hj:=h6 j
 change Den g (q1t E j) _ at hj
 show Den g (q1t (u8k i l E) j) _
 unfold q1t at hj⊢
 unfold u8k
 rw[j7s (fun x=>by
  cases Nat.beq x.1 i with
  |false=>rfl
  |true=>simp only[cond_true];split<;>rfl)]
 cases hlk:look j E with
 |none=>simp only[Option.map_none,Den]
 |some v=>
  rw[hlk]at hj
  simp only[Qg1]
  simp only at hj
  cases Nat.beq j i with
  |false=>exact hj
  |true=>
   simp only[cond_true]
   split
   ·rw[q0b hj]
    simp only[Den]
    exact .nil l none 0 (Qb0 hl)
   ·exact hj
def u0i (i r:Nat) (E:Env):Env:=E.map fun x=>bif Nat.beq x.1 i then(match x.2 with|.im (.val (.slice none 0 0))=>(x.1,.row r)|_=>x)else x
def z4r {α:Type}:List α→Nat→α→List α
 |[],_,_=>[]
 |_::l,0,y=>y::l
 |x::l,n+1,y=>x::z4r l n y
def u1b (b j r:Nat) (H:Hp):Hp:=H.map fun x=>bif Nat.beq x.1 b then(match x.2 with|.box cs=>(match cs[j]? with|some (.im (.val (.slice none 0 0)))=>(x.1,.box (z4r cs j (.row r)))|_=>x)|_=>x)else x
theorem y0p {f:Nat×q0d→Nat×q0d} (hf:∀x,(f x).1=x.1):∀{l:Hp} {i:Nat},look i (l.map f)=(look i l).map fun v=>(f (i,v)).2
 |[],i=>rfl
 |(j,v)::l,i=>by
  simp only[Qc6]
  have h1:=hf (j,v)
  obtain⟨a,b,hb'⟩:∃a b,f (j,v)=(a,b):=⟨_,_,rfl⟩
  rw[hb']at h1⊢
  simp only at h1
  subst h1
  unfold look
  by_cases e:a=i
  ·subst e
   rw[q6x]
   simp only[cond_true,Qg1]
   rw[hb']
  ·rw[q4x e]
   simp only[cond_false]
   exact y0p hf
theorem MOk.nilRow {w0:Base} {G0:Nat→Prop} {g:Gh} {H:Nat→Option q0d} (h:MOk w0 G0 g H) {r e:Nat} {l:LD} (hr:¬g.U r) (hl:l.len=0) (hst:0<l.st):
 ∃g':Gh,g'.W=g.W∧g.le g'∧(∀x,g'.U x↔(g.U x∨x=r))∧g'.β r=.slice none 0 0∧MOk w0 G0 g' (upd H r (some (.row e l))):=by
 have hg:=good_row (nm:=r) (e:=e) (l:=l) (v:=.slice none 0 0) (xs:=[]) (W':=g.W) (ob:=none) (H':=upd H r (some (.row e l))) h hr ⟨rfl,rfl,rfl,Qb8 _,fun _ _ _=>rfl⟩ (fun b hb=>by cases hb) (fun x o hx=>by
  unfold upd at hx
  by_cases e':x=r
  ·subst e';rw[q6x]at hx;simp at hx;exact .inl ⟨rfl,hx.symm⟩
  ·rw[q4x e']at hx;exact .inr ⟨e',hx,fun b hb=>by cases hb⟩) (by rw[hl];exact q5a.nil g.W e hst) (by rw[hl];exact Qc1 _) (fun i j hi _=>by omega) (fun b hb=>by simp[q1k]at hb)
 obtain⟨g',h1,h2,h3,h4,h5⟩:=hg
 simp only[Den]at h5
 exact⟨g',h1,h2,h3,h5.2.1.symm,h4⟩
theorem k3l (i r e:Nat) (l:LD) (hl:Nat.beq l.len 0=true) (hst:Nat.blt 0 l.st=true) (hr:(Nat.blt r 1000&&Nat.ble k.w0.m r)=true) (hf:(look r H).isSome=false) (hE:u0i i r E=E') {a:Act} {W:World} (hs:Sim k E H a W):Sim k E' ((r,.row e l)::H) a W:=by
 subst hE
 obtain⟨h1,h2,g,rfl,h4,h5,h6⟩:=hs
 have hr1:r<1000∧k.w0.m≤r:=by simp only[Qa2]at hr;exact⟨by simpa using hr.1,Qc3 hr.2⟩
 have hU:¬g.U r:=fun hu=>by
  rcases(h4 r hu).2 with h|h
  ·omega
  ·rw[hf]at h;cases h
 obtain⟨g',q1,q2,q3,q4,q5⟩:=h5.nilRow (e:=e) hU (Qb0 hl) (by simpa using hst)
 have hheap:(q5i (u0i i r E) ((r,.row e l)::H)).heap=upd (q5i E H).heap r (some (.row e l)):=by
  funext x
  show(bif Nat.beq r x then some (.row e l)else look x H)=(bif Nat.beq x r then some (.row e l)else look x H)
  by_cases hx:x=r
  ·subst hx;rw[q6x]
  ·rw[q4x hx,q4x (Ne.symm hx)]
 refine⟨h1,h2,g',q1,fun x hx=>?_,by rw[hheap];exact q5,fun j=>?_⟩
 ·rcases(q3 x).1 hx with hx|rfl
  ·refine⟨(h4 x hx).1,(h4 x hx).2.imp id fun h4'=>?_⟩
   unfold look
   by_cases e':r=x
   ·subst e';rw[q6x];rfl
   ·rw[q4x e'];exact h4'
  ·refine⟨hr1.1,.inr ?_⟩
   unfold look
   rw[q6x]
   rfl
 ·have hj:=Den.mono q2 _ _ (h6 j)
  change Den g' (q1t E j) _ at hj
  show Den g' (q1t (u0i i r E) j) _
  unfold q1t at hj⊢
  unfold u0i
  rw[j7s (fun x=>by
   cases Nat.beq x.1 i with
   |false=>rfl
   |true=>simp only[cond_true];split<;>rfl)]
  cases hlk:look j E with
  |none=>simp only[Option.map_none,Den]
  |some v=>
   rw[hlk]at hj
   simp only[Qg1]
   simp only at hj
   cases Nat.beq j i with
   |false=>exact hj
   |true=>
    simp only[cond_true]
    split
    ·rw[q0b hj]
     simp only[Den]
     exact⟨(q3 r).2 (.inr rfl),q4.symm,.inl ⟨none,0,0,rfl⟩⟩
    ·exact hj
theorem j1p {g:Gh}:∀{cs:List AV} {us:List Value} {j:Nat} {x:AV} {u:Value},q0e g cs us→us[j]? =some u→Den g x u→q0e g (z4r cs j x) us
 |[],us,j,x,u,h,hu,_=>by simp only[q0e]at h;subst h;simp at hu
 |c::cs,us,0,x,u,h,hu,hx=>by simp only[q0e]at h;obtain⟨v,vs',rfl,_,h2⟩:=h;simp at hu;subst hu;simp only[z4r,q0e];exact⟨_,_,rfl,hx,h2⟩
 |c::cs,us,j+1,x,u,h,hu,hx=>by simp only[q0e]at h;obtain⟨v,vs',rfl,h1,h2⟩:=h;simp only[z4r,q0e];exact⟨_,_,rfl,h1,j1p h2 (by simpa using hu) hx⟩
theorem x0z {H':Hp} (b j r e:Nat) (l:LD) (hl:Nat.beq l.len 0=true) (hst:Nat.blt 0 l.st=true) (hr:(Nat.blt r 1000&&Nat.ble k.w0.m r)=true) (hf:(look r H).isSome=false) (hH:u1b b j r H=H') {a:Act} {W:World} (hs:Sim k E H a W):Sim k E ((r,.row e l)::H') a W:=by
 subst hH
 obtain⟨h1,h2,g,rfl,h4,h5,h6⟩:=hs
 have hr1:r<1000∧k.w0.m≤r:=by simp only[Qa2]at hr;exact⟨by simpa using hr.1,Qc3 hr.2⟩
 have hU:¬g.U r:=fun hu=>by
  rcases(h4 r hu).2 with h|h
  ·omega
  ·rw[hf]at h;cases h
 obtain⟨g',q1,q2,q3,q4,q5⟩:=h5.nilRow (e:=e) hU (Qb0 hl) (by simpa using hst)
 have hfst:∀x:Nat×q0d,(bif Nat.beq x.1 b then(match x.2 with|.box cs=>(match cs[j]? with|some (.im (.val (.slice none 0 0)))=>(x.1,q0d.box (z4r cs j (.row r)))|_=>x)|_=>x)else x).1=x.1:=by
  intro x
  cases Nat.beq x.1 b with
  |false=>rfl
  |true=>
   simp only[cond_true]
   split
   ·split<;>rfl
   ·rfl
 have hlk:∀x,look x (u1b b j r H)=(look x H).map fun o=>(bif Nat.beq x b then(match o with|.box cs=>(match cs[j]? with|some (.im (.val (.slice none 0 0)))=>q0d.box (z4r cs j (.row r))|_=>o)|_=>o)else o):=by
  intro x
  unfold u1b
  rw[y0p hfst]
  congr 1
  funext o
  cases Nat.beq x b with
  |false=>rfl
  |true=>
   simp only[cond_true]
   split
   ·split<;>rfl
   ·rfl
 refine⟨h1,h2,g',q1,fun x hx=>?_,⟨?_,?_,?_,q5.gb,q5.bel,q5.anc⟩,fun i=>Den.mono q2 _ _ (h6 i)⟩
 ·rcases(q3 x).1 hx with hx|rfl
  ·refine⟨(h4 x hx).1,(h4 x hx).2.imp id fun h4'=>?_⟩
   unfold look
   by_cases e':r=x
   ·subst e';rw[q6x];rfl
   ·rw[q4x e']
    simp only[cond_false]
    rw[hlk]
    simpa using h4'
  ·refine⟨hr1.1,.inr ?_⟩
   unfold look
   rw[q6x]
   rfl
 all_goals
  have hsome:∀x o,look x ((r,.row e l)::u1b b j r H)=some o→∃o',upd (q5i E H).heap r (some (.row e l)) x=some o'∧(o'=o∨(x≠r∧∃cs,o'=.box cs∧cs[j]? =some (.im (.val (.slice none 0 0)))∧o=.box (z4r cs j (.row r)))):=by
   intro x o hx
   unfold look at hx
   by_cases e':r=x
   ·subst e'
    rw[q6x]at hx
    exact⟨_,by unfold upd;rw[q6x];exact hx,.inl rfl⟩
   ·rw[q4x e']at hx
    simp only[cond_false]at hx
    rw[hlk]at hx
    cases ho:look x H with
    |none=>rw[ho]at hx;cases hx
    |some o'=>
     rw[ho]at hx
     simp only[Qg1,Option.some.injEq]at hx
     refine⟨o',by unfold upd;rw[q4x (Ne.symm e')];exact ho,?_⟩
     cases hb:Nat.beq x b with
     |false=>rw[hb]at hx;exact .inl hx
     |true=>
      rw[hb]at hx
      simp only[cond_true]at hx
      split at hx
      ·rename_i cs
       split at hx
       ·rename_i hc
        exact .inr ⟨Ne.symm e',cs,rfl,hc,hx.symm⟩
       ·exact .inl hx
      ·exact .inl hx
 ·intro x o hx
  obtain⟨o',ho',hc⟩:=hsome x o hx
  obtain⟨hu,hok⟩:=q5.ok x o' ho'
  refine⟨hu,?_⟩
  rcases hc with rfl|⟨_,cs,rfl,hcj,rfl⟩
  ·exact hok
  ·obtain⟨b',t,arr,hb',hw,hd⟩:=hok
   refine⟨b',t,arr,hb',hw,?_⟩
   obtain⟨u,hu1,hu2⟩:=hd.get hcj
   refine j1p hd hu1 ?_
   rw[q0b hu2]
   simp only[Den]
   exact⟨(q3 r).2 (.inr rfl),q4.symm,.inl ⟨none,0,0,rfl⟩⟩
 ·intro x x' o o' b' hx hx' hb hb'
  obtain⟨p,hp,_⟩:=hsome x o hx
  obtain⟨p',hp',_⟩:=hsome x' o' hx'
  exact q5.sep x x' p p' b' hp hp' hb hb'
 ·intro x o b' hx hb
  obtain⟨p,hp,_⟩:=hsome x o hx
  exact q5.own x p b' hp hb
theorem u3h (i:Nat) (l:LD) (hl:Nat.beq l.len 0=true) (hE:u8k i l E=E') {x:Exit} (h:Fin k E' H Q x):Fin k E H Q x:=fun a W hs=>h a W (u3r i l hl hE hs)
theorem u5i (i r e:Nat) (l:LD) (hl:Nat.beq l.len 0=true) (hst:Nat.blt 0 l.st=true) (hr:(Nat.blt r 1000&&Nat.ble k.w0.m r)=true) (hf:(look r H).isSome=false) (hE:u0i i r E=E') (h:Tri k E' ((r,.row e l)::H) c Q):Tri k E H c Q:=fun a W hs=>h a W (k3l i r e l hl hst hr hf hE hs)
theorem u3z (i r e:Nat) (l:LD) (hl:Nat.beq l.len 0=true) (hst:Nat.blt 0 l.st=true) (hr:(Nat.blt r 1000&&Nat.ble k.w0.m r)=true) (hf:(look r H).isSome=false) (hE:u0i i r E=E') {x:Exit} (h:Fin k E' ((r,.row e l)::H) Q x):Fin k E H Q x:=fun a W hs=>h a W (k3l i r e l hl hst hr hf hE hs)
theorem k7q {H':Hp} (b j r e:Nat) (l:LD) (hl:Nat.beq l.len 0=true) (hst:Nat.blt 0 l.st=true) (hr:(Nat.blt r 1000&&Nat.ble k.w0.m r)=true) (hf:(look r H).isSome=false) (hH:u1b b j r H=H') (h:Tri k E ((r,.row e l)::H') c Q):Tri k E H c Q:=fun a W hs=>h a W (x0z b j r e l hl hst hr hf hH hs)
theorem k8j {H':Hp} (b j r e:Nat) (l:LD) (hl:Nat.beq l.len 0=true) (hst:Nat.blt 0 l.st=true) (hr:(Nat.blt r 1000&&Nat.ble k.w0.m r)=true) (hf:(look r H).isSome=false) (hH:u1b b j r H=H') {x:Exit} (h:Fin k E ((r,.row e l)::H') Q x):Fin k E H Q x:=fun a W hs=>h a W (x0z b j r e l hl hst hr hf hH hs)
theorem q1g {a a':Option q0d} {l l':List (Option q0d)} (h:a=a') (h':l=l'):a::l=a'::l':=by rw[h,h']
theorem neB {a b:Int} (h:(a==b)=false):a≠b:=ne_of_beq_false h
end
def Post (w0:Base) (G0:Nat→Prop) (r:AV) (outs:List (Option q0d)) (e:Ending) (W':World):Prop:=
 ∃u g',e=.returned u∧g'.W=W'∧MOk w0 G0 g' (q3s outs)∧Den g' r u
def u1x (ε:Ending→Value→Prop) (w0:Base) (G0:Nat→Prop) (r:AV) (outs:List (Option q0d)) (e:Ending) (W':World):Prop:=
 ∃u g',ε e u∧g'.W=W'∧MOk w0 G0 g' (q3s outs)∧Den g' r u
def q7x (cx:Cx) (E:Env) (H:Hp):List ResultVar→Option (List AV)
 |[]=>some []
 |.tmp t::l=>match q7x cx E H l with|some m=>some (q1t E t::m)|none=>none
 |.cell a t::l=>
  match q1t E a,look t cx.ty with
  |.loc r off,some td=>
   match look r H with
   |some (.box cs)=>(match q9a td (cs.drop off),q7x cx E H l with|some v,some m=>some (v::m)|_,_=>none)
   |_=>none
  |_,_=>none
def y2c:List AV→AV
 |[x]=>x
 |l=>.tup l
def v0b (tmps:Array Value):ResultVar→Sem Value
 |.tmp t=>pure (tmps.getD t undef)
 |.cell a t=>do loadVar t (←asAddr (tmps.getD a undef))
theorem y3z {k:Ct} (hcx:q1c k.P k.cx) {E:Env} {H:Hp} {a:Act} {g:Gh} (hm:MOk k.w0 k.G0 g (q5i E H).heap) (henv:∀i,Den g ((q5i E H).env i) (a.tmps.getD i undef)):
 ∀(rs:List ResultVar) (avs:List AV),q7x k.cx E H rs=some avs→
  ∃us,(rs.mapM (v0b a.tmps)).run k.P g.W=.ok us g.W∧q0e g avs us
 |[],avs,h=>by cases h;exact⟨[],by simp,by simp[q0e]⟩
 |.tmp t::l,avs,h=>by
  unfold q7x at h
  cases hr:q7x k.cx E H l with
  |none=>rw[hr]at h;cases h
  |some m=>
   rw[hr]at h
   cases h
   obtain⟨us,h1,h2⟩:=y3z hcx hm henv l m hr
   refine⟨a.tmps.getD t undef::us,?_,?_⟩
   ·rw[List.mapM_cons,Sem.run_bind]
    simp only[v0b,Sem.run_pure,Result.andThen,Sem.run_bind,h1]
   ·simp only[q0e];exact⟨_,_,rfl,henv t,h2⟩
 |.cell p t::l,avs,h=>by
  unfold q7x at h
  split at h
  ·rename_i r off td he ht
   split at h
   ·rename_i cs hr
    split at h
    ·rename_i v m hv hl
     cases h
     obtain⟨us,h1,h2⟩:=y3z hcx hm henv l m hl
     have hd:=henv p
     change Den g (q1t E p) _ at hd
     rw[he]at hd
     simp only[Den]at hd
     obtain⟨_,b,hb,hx⟩:=hd
     obtain⟨_,b',t',arr,hb',hw,hdl⟩:=hm.ok r _ hr
     rw[hb]at hb'
     cases hb'
     obtain⟨u,hu,hdu⟩:=q8t (hcx.ty t td ht) g.W b off (arr.toList.drop off) (fun j u hu=>by
      rw[cell_of_row g.W b (off+j) arr t' (0,0) hw]
      rw[Qh4]at hu
      simpa using hu) (hdl.drop off) hv
     refine⟨u::us,?_,?_⟩
     ·rw[List.mapM_cons,Sem.run_bind]
      simp only[v0b,hx,asAddr,Sem.run_pure,Result.andThen,Sem.run_bind,hu,h1]
     ·simp only[q0e];exact⟨_,_,rfl,hdu,h2⟩
    ·cases h
   ·cases h
  ·cases h
def q8v (H:Hp):Nat→List Bool→List (Option q0d)
 |_,[]=>[]
 |i,b::l=>(bif b then look i H else none)::q8v H (i+1) l
theorem j1o {H:Hp}:∀{l:List Bool} {i k:Nat} {o:q0d},(q8v H i l)[k]? =some (some o)→look (i+k) H=some o
 |[],i,k,o,h=>by simp[q8v]at h
 |b::l,i,0,o,h=>by
  cases b with
  |true=>simpa[q8v]using h
  |false=>simp[q8v]at h
 |b::l,i,k+1,o,h=>by
  have:=j1o (l:=l) (i:=i+1) (k:=k) (by simpa[q8v]using h)
  rw[show i+(k+1)=i+1+k by omega]
  exact this
def mkD (b:Nat):Deferred:={target:=.collected b,args:= #[]}
def dfr:Obj:=.deferred (some [])
def z9x (H:Hp):List (Nat×Nat)→Prop
 |[]=>True
 |(r,b)::l=>look r H=some (.other b dfr)∧z9x H l
def z0g (ns:List Nat) (H:Hp):Hp:=H.filter fun x=> !q5q x.1 ns
theorem j3k {ns:List Nat} {r:Nat}:∀{H:Hp},look r (z0g ns H)=bif q5q r ns then none else look r H
 |[]=>by cases q5q r ns<;>rfl
 |(j,x)::l=>by
  have ih:=j3k (ns:=ns) (r:=r) (H:=l)
  unfold z0g at ih⊢
  rw[Ql0]
  by_cases e:j=r
  ·subst e
   cases hm:q5q j ns with
   |true=>rw[hm]at ih;simpa[hm]using ih
   |false=>simp[look,q6x]
  ·cases hm:q5q j ns with
   |true=>simp only[hm,Qm1,Qj6,if_false];rw[ih];simp[look,q4x e]
   |false=>simp only[hm,Bool.not_false,if_true,look,q4x e,cond_false];exact ih
theorem MOk.take {w0:Base} {G0:Nat→Prop} {g:Gh} {Hf:Nat→Option q0d} {r b:Nat} {o:Obj} (o':Obj) (h:MOk w0 G0 g Hf) (hr:Hf r=some (.other b o)):
 g.le ⟨g.W.putObj b o',g.G,g.β,g.U⟩∧MOk w0 G0 ⟨g.W.putObj b o',g.G,g.β,g.U⟩ (upd Hf r none):=by
 obtain⟨hv,hw⟩:=(h.ok r _ hr).2
 have hbk:q1k (g.β r)=some b:=by rw[hv];rfl
 obtain⟨hnG,hmine⟩:=h.own r _ b hr hbk
 have hle:g.le ⟨g.W.putObj b o',g.G,g.β,g.U⟩:=⟨fun k hk=>World.putObj_heap_other (fun e=>hnG (e▸hk)),fun _ hk=>hk,fun _ hk=>⟨hk,rfl⟩⟩
 have hupd:∀x o,upd Hf r none x=some o→x≠r∧Hf x=some o:=by
  intro x o hx
  unfold upd at hx
  by_cases e':x=r
  ·subst e';rw[q6x]at hx;cases hx
  ·rw[q4x e']at hx;exact⟨e',hx⟩
 refine⟨hle,fun x o hx=>?_,fun x x' o o' b hx hx'=>h.sep x x' o o' b (hupd x o hx).2 (hupd x' o' hx').2,fun x o b hx=>h.own x o b (hupd x o hx).2,fun k hk=>⟨by simpa using(h.gb k hk).1,(h.gb k hk).2⟩,?_,h.anc_up hle⟩
 ·obtain⟨hne,hx⟩:=hupd x o hx
  exact⟨(h.ok x o hx).1,(h.ok x o hx).2.up hle fun k hk=>World.putObj_heap_other (fun e=>hne (h.sep x r o _ b hx hr (e▸hk) hbk))⟩
 ·refine⟨h.bel.os,h.bel.tape,h.bel.output,by simpa using h.bel.size,fun k hk hno=>(World.putObj_heap_other (fun e=>?_)).trans (h.bel.block k hk hno)⟩
  subst e
  rcases hmine with h1|h1
  ·exact absurd hk (Nat.not_lt.2 h1)
  ·exact hno h1
theorem z4w {w0:Base} {G0:Nat→Prop} {P:Program} {fn:Func} {tmps:Array Value} {R:Ending→World→Prop} {n:Nat}:∀(ms:List (Nat×Nat)) (g:Gh) (Hf:Nat→Option q0d),MOk w0 G0 g Hf→(∀x∈ms,Hf x.1=some (.other x.2 dfr))→nodup (ms.map (·.1))=true→
 (∀g':Gh,g.le g'→MOk w0 G0 g' (fun r=>bif q5q r (ms.map (·.1))then none else Hf r)→LeavesIn (FR none) n P fn tmps R [] .returning g'.W)→LeavesInM (FR none) n P fn tmps R (ms.map fun x=>mkD x.2) .returning g.W
 |[],g,Hf,hm,_,_,hk=>hk g (Gh.le.refl g) hm
 |(r,b)::ms,g,Hf,hm,hH,hnd,hk=>by
  have hr:=hH (r,b) Qb4
  obtain⟨hle,hm'⟩:=hm.take (.deferred none) hr
  obtain⟨hv,hw⟩:=(hm.ok r _ hr).2
  simp only[Qc6,nodup,Qa2]at hnd
  refine⟨by simp,.inl ⟨b,_,rfl,run_takeDeferred hw,?_⟩⟩
  refine z4w ms _ _ hm' (fun x hx=>?_) hnd.2 fun g' hg' hm''=>hk g' (hle.trans hg') ?_
  ·have hne:x.1≠r:=fun e=>by
    have:q5q r (ms.map (·.1))=true:=q1v.2 (e▸Qp5 hx)
    rw[this]at hnd
    cases hnd.1
   unfold upd
   rw[q4x hne]
   exact hH x (Qb7 _ hx)
  ·have e:(fun x=>bif q5q x (((r,b)::ms).map (·.1))then none else Hf x)=fun x=>bif q5q x (ms.map (·.1))then none else upd Hf r none x:=by
    funext x
    simp only[Qc6,q5q,upd]
    by_cases hx:r=x
    ·subst hx;simp[q6x]
    ·simp[q4x hx,q4x (Ne.symm hx)]
   rw[e]
   exact hm''
theorem z9x.all {H:Hp}:∀{ms:List (Nat×Nat)},z9x H ms→∀x∈ms,look x.1 H=some (.other x.2 dfr)
 |_::_,h,x,hx=>by
  rcases List.mem_cons.1 hx with e|e
  ·rw[e];exact h.1
  ·exact h.2.all x e
theorem k1w {k:Ct} {E:Env} {H:Hp} {fn:Func} {avs:List AV} {r:AV} {outs:List (Option q0d)} (ms:List (Nat×Nat)) (hds:k.w0.ds=ms.map fun x=>mkD x.2) (hnd:nodup (ms.map (·.1))=true) (hmk:z9x H ms) (hcx:q1c k.P k.cx)
 (h:q7x k.cx E (z0g (ms.map (·.1)) H) fn.results.toList=some avs) (hr:y2c avs=r) (mask:List Bool) (ho:q8v (z0g (ms.map (·.1)) H) 0 mask=outs):Fin k E H (bodyPostM (FR none) 3 k.P fn (Post k.w0 k.G0 r outs)) .ret:=by
 intro a W hs
 obtain⟨_,hdf,g,rfl,_,hm,henv⟩:=hs
 show LeavesInM (FR none) 3 k.P fn a.tmps _ a.defers .returning g.W
 rw[hdf,hds]
 refine z4w ms g _ hm hmk.all hnd fun g' hle hm'=>?_
 have e:(fun r=>bif q5q r (ms.map (·.1))then none else(q5i E H).heap r)=(q5i E (z0g (ms.map (·.1)) H)).heap:=by funext r;exact j3k.symm
 rw[e]at hm'
 replace henv:∀i,Den g' ((q5i E (z0g (ms.map (·.1)) H)).env i) (a.tmps.getD i undef):=fun i=>Den.mono hle _ _ (henv i)
 clear hm hle
 revert hm' henv
 generalize z0g (ms.map (·.1)) H=H at h ho⊢
 intro hm henv
 generalize g'=g at hm henv⊢
 obtain⟨us,h1,h2⟩:=y3z hcx hm henv _ _ h
 have hlen:=h2.length
 refine⟨if h:us.toArray.size=1 then us.toArray[0]else .tuple us.toArray,?_,?_⟩
 ·have e:results fn a.tmps=(do let vs←fn.results.mapM (v0b a.tmps);pure (if h:vs.size=1 then vs[0]else .tuple vs)):=rfl
  rw[e,Sem.run_bind,Array.mapM_eq_mapM_toList]
  simp[h1,Result.andThen]
 ·have hdr:Den g r (if h:us.toArray.size=1 then us.toArray[0]else .tuple us.toArray):=by
   rw[←hr]
   match avs,us,h2,hlen with
   |[x],us,h2,_=>obtain⟨u,rfl,hu⟩:=q4w h2;simpa[y2c]using hu
   |[],us,h2,hl=>
    have:us=[]:=by simpa[q0e]using h2
    subst this
    simp only[y2c,Den]
    exact⟨[],by simp,by simp[q0e]⟩
   |x::y::l,us,h2,hl=>
    have hne:¬us.toArray.size=1:=by simp at hl⊢;omega
    rw[dif_neg hne]
    simp only[y2c,Den]
    exact⟨us,rfl,h2⟩
  have hsub:∀i o,q3s outs i=some o→(q5i E H).heap i=some o:=by
   intro i o hi
   unfold q3s at hi
   split at hi
   ·rename_i x hx
    subst hi
    rw[←ho]at hx
    have:=j1o hx
    rw[Qg7]at this
    exact this
   ·cases hi
  exact⟨_,g,rfl,rfl,⟨fun x o hx=>hm.ok x o (hsub x o hx),fun x x' o o' b hx hx'=>hm.sep x x' o o' b (hsub x o hx) (hsub x' o' hx'),fun x o b hx=>hm.own x o b (hsub x o hx),hm.gb,hm.bel,hm.anc⟩,hdr⟩
theorem j6c {k:Ct} {E E':Env} {H H':Hp} {Q:Exit→Act→World→Prop} {e:Exit} (ρ:List (Nat×RM)) (keys:List Nat) (h:(bif z0j k.w0.m ρ&&q8a ρ (fun r=>look r H)then some (q4d ρ (q5i E H) keys,q1y ρ (fun r=>look r H) ρ)else none)=some (E',H')) (hf:Fin k E' H' Q e):Fin k E H Q e:=by
 intro a W hs
 cases hb:(z0j k.w0.m ρ&&q8a ρ (fun r=>look r H))with
 |false=>rw[hb]at h;cases h
 |true=>
  rw[hb]at h
  simp only[cond_true,Option.some.injEq,Prod.mk.injEq]at h
  obtain⟨rfl,rfl⟩:=h
  simp only[Qa2]at hb
  exact hf a W (z0o.ren (S:=q5i E H) hs hs.m_le hb.1 hb.2 keys)
theorem z9b {k:Ct} {E E':Env} {H H':Hp} {Q:Exit→Act→World→Prop} {c:Code} (ρ:List (Nat×RM)) (keys:List Nat) (h:(bif z0j k.w0.m ρ&&q8a ρ (fun r=>look r H)then some (q4d ρ (q5i E H) keys,q1y ρ (fun r=>look r H) ρ)else none)=some (E',H')) (hf:Tri k E' H' c Q):Tri k E H c Q:=by
 intro a W hs
 cases hb:(z0j k.w0.m ρ&&q8a ρ (fun r=>look r H))with
 |false=>rw[hb]at h;cases h
 |true=>
  rw[hb]at h
  simp only[cond_true,Option.some.injEq,Prod.mk.injEq]at h
  obtain⟨rfl,rfl⟩:=h
  simp only[Qa2]at hb
  exact hf a W (z0o.ren (S:=q5i E H) hs hs.m_le hb.1 hb.2 keys)
theorem q0r {P : Program} {f : Nat} {fn : Func} {c : Code} (hf : P.funcs[f]? = some fn) (hname : (fn.name == "runtime.NumGoroutine") = false) (hb : fn.body = some c) (args : Array Value) (W : World) :
 (callFunc f args).run P W=.ok (.enter f args) W:=by
 have h1 : fn.name ≠ "runtime.NumGoroutine" := by simpa using hname
 simp[callFunc,hf,h1,hb]
theorem x8t {g g':Gh} {os:List q0d} {H':Nat→Option q0d} {r:AV} {u:Value} (hm:MOk ⟨g.W,q5p g os,os.length,g.β,[]⟩ g.G g (q8e os)) (hU:∀r,g.U r→r<os.length)
 (hm':MOk ⟨g.W,q5p g os,os.length,g.β,[]⟩ g.G g' H') (hd:Den g' r u):∃g'':Gh,g''.W=g'.W∧g.le g''∧MOk ⟨g.W,q5p g os,os.length,g.β,[]⟩ g.G g'' H'∧Den g'' r u:=by
 have hlent:∀b,q5p g os b→¬g.G b:=by
  rintro b ⟨r,hr,hb⟩
  exact(hm.own r os[r] b (Qa0 hr) hb).1
 have hkeep:∀b,g.G b→g'.W.heap[b]? =g.W.heap[b]? :=fun b hb=>hm'.bel.block b (hm.gb b hb).1 (fun h=>hlent b h hb)
 let g2:Gh:=⟨g'.W,fun b=>g'.G b∨g.G b,g'.β,g'.U⟩
 have hle2:g'.le g2:=⟨fun _ _=>rfl,fun _ h=>.inl h,fun _ h=>⟨h,rfl⟩⟩
 refine⟨g2,rfl,⟨hkeep,fun _ h=>.inr h,fun r hr=>hm'.anc.1 r (hU r hr)⟩,⟨fun x o hx=>?_,hm'.sep,fun x o b hx hb=>?_,?_,hm'.bel,hm'.anc.1,hm'.anc.2.up hle2⟩,Den.mono hle2 _ _ hd⟩
 ·exact⟨(hm'.ok x o hx).1,(hm'.ok x o hx).2.up hle2 fun _ _=>rfl⟩
 ·obtain⟨h1,h2⟩:=hm'.own x o b hx hb
  refine⟨fun h=>?_,h2⟩
  rcases h with h|h
  ·exact h1 h
  ·rcases h2 with h2|h2
   ·have:=(hm.gb b h).1
    exact absurd (show g.W.heap.size≤b from h2) (by omega)
   ·exact hlent b h2 h
 ·rintro b (h|h)
  ·exact hm'.gb b h
  ·exact⟨Qc2 (hm.gb b h).1 hm'.bel.size,.inl h⟩
theorem z7w {ε : Ending → Value → Prop} {P : Program} {cx : Cx} {f : Nat} {fn : Func} {c : Code} {σ : CtF} (hf : P.funcs[f]? = some fn) (hname : (fn.name == "runtime.NumGoroutine") = false) (hb : fn.body = some c)
 (h:∀w0 G0 args os p r outs,σ args os=some (p,r,outs)→p→w0.m=os.length→w0.ds=[]→(Nat.ble args.length fn.ntmps&&Nat.ble os.length 1000)=true∧Tri ⟨P,cx,w0,G0,fn.ntmps,none⟩ (q2v 0 args) (q2v 0 os) c (bodyPostM (FR none) 3 P fn (u1x ε w0 G0 r outs))):q3v P f σ ε:=by
 refine⟨fun args W=>q0r hf hname hb args W,fun g args os vs p r outs hσ hp hm hU hd=>?_⟩
 obtain⟨hlen',ht⟩:=h ⟨g.W,q5p g os,os.length,g.β,[]⟩ g.G args os p r outs hσ hp rfl rfl
 simp only[Qa2]at hlen'
 have hlen:=Qc3 hlen'.1
 have hlos:=Qc3 hlen'.2
 have hnum:∀i,(q5i (q2v 0 args) (q2v 0 os)).heap i=q8e os i:=by
  intro i
  show look i (q2v 0 os)=os[i]?
  have key:∀(l:List q0d) (j i:Nat),look (j+i) (q2v j l)=l[i]? :=by
   intro l
   induction l with
   |nil=>intro j i;rfl
   |cons x l ih=>
    intro j i
    unfold q2v look
    rcases i with _|i
    ·rw[Qd9,q6x];rfl
    ·rw[q4x (by omega),show j+(i+1)=j+1+i by omega]
     exact ih (j+1) i
  have:=key os 0 i
  rwa [Qg7]at this
 have hheap:(q5i (q2v 0 args) (q2v 0 os)).heap=q8e os:=funext hnum
 refine Calls.mono (q2p.1 (callsIn_of_wp_marks (F:=FR none) (n:=3) hf hb trivial (ht _ g.W ⟨?_,rfl,g,rfl,fun r hr=>⟨Qc2 (hU r hr) hlos,.inl (hU r hr)⟩,by rw[hheap];exact hm,?_⟩) rfl)) fun e W' hpost=>?_
 ·have:=hd.length
  simp
  omega
 ·intro i
  show Den _ (q1t (q2v 0 args) i) _
  unfold q1t
  cases hl:look i (q2v 0 args)with
  |none=>simp only[Den]
  |some x=>
   have hx:=z2f (q1p hl)
   obtain⟨v,hv,hdv⟩:=hd.get hx
   have hi:i<vs.length:=(List.getElem?_eq_some_iff.1 hv).1
   have:(vs.toArray++Array.replicate (fn.ntmps-vs.toArray.size) undef).getD i undef=v:=by
    rw[Qf3,Qj4 (by simpa using hi)]
    simp at hv⊢
    simp[hv]
   rw[this]
   exact hdv
 ·obtain⟨u,g',hε,rfl,h1,h2⟩:=hpost
  obtain⟨g'',q1,q2,q3,q4⟩:=x8t hm hU h1 h2
  exact⟨u,g'',hε,q1,q2,q3,q4⟩
theorem y8q {P : Program} {cx : Cx} {f : Nat} {fn : Func} {c : Code} {σ : CtF} (hf : P.funcs[f]? = some fn) (hname : (fn.name == "runtime.NumGoroutine") = false) (hb : fn.body = some c)
 (h:∀w0 G0 args os p r outs,σ args os=some (p,r,outs)→p→w0.m=os.length→w0.ds=[]→(Nat.ble args.length fn.ntmps&&Nat.ble os.length 1000)=true∧Tri ⟨P,cx,w0,G0,fn.ntmps,none⟩ (q2v 0 args) (q2v 0 os) c (bodyPostM (FR none) 3 P fn (Post w0 G0 r outs))):q0c P f σ:=
 z7w (ε:=fun e u=>e=.returned u) hf hname hb h
end
end Go.Proofs.YteikjpbbhopkaaaGreatDoor.En
namespace Go.Proofs.YteikjpbbhopkaaaGreatDoor.En
section
open Go Go.RowKit
def z5m (ks:List Nat):Env→Env
 |[]=>[]
 |(i,x)::l=>bif q5q i ks then(i,x)::z5m ks l else z5m ks l
def z0w (ns:List Nat):Hp→Hp
 |[]=>[]
 |(i,x)::l=>bif q5q i ns then(i,x)::z0w ns l else z0w ns l
def u9z (ρ:List (Nat×RM)) (r:Nat):Bool:=match look r ρ with|some (.to r')=>Nat.beq r r'|_=>false
mutual
def AV.stay (ρ:List (Nat×RM)):AV→Bool
 |.any=>true
 |.im _=>true
 |.opt _ x=>x.stay ρ
 |.agg xs=>y1z ρ xs
 |.tup xs=>y1z ρ xs
 |.loc r _=>u9z ρ r
 |.pto _=>true
 |.row r=>u9z ρ r
 |.prow _ _ _=>false
 |.clo _ xs=>y1z ρ xs
 |.err _=>true
def y1z (ρ:List (Nat×RM)):List AV→Bool
 |[]=>true
 |x::l=>x.stay ρ&&y1z ρ l
end
def q0d.stay (ρ:List (Nat×RM)):q0d→Bool
 |.box cs=>y1z ρ cs
 |.row _ _=>true
 |.other _ _=>true
 |.mset _=>true
 |.mfun _ cs=>y1z ρ cs
theorem j9m {ρ:List (Nat×RM)} {r:Nat} (h:u9z ρ r=true):look r ρ=some (.to r):=by
 unfold u9z at h
 split at h
 ·rename_i r' hr;rw[hr,Qb0 h]
 ·cases h
mutual
theorem j6e {ρ:List (Nat×RM)} {hp:Nat→Option q0d}:∀x:AV,x.stay ρ=true→ren ρ hp x=x
 |.any,_=>by simp only[ren]
 |.im x,_=>by simp only[ren]
 |.opt c x,h=>by simp only[ren,j6e x (by simpa only[AV.stay]using h)]
 |.agg xs,h=>by simp only[ren,q6w xs (by simpa only[AV.stay]using h)]
 |.tup xs,h=>by simp only[ren,q6w xs (by simpa only[AV.stay]using h)]
 |.loc r off,h=>by simp only[AV.stay]at h;simp only[ren,y9d,j9m h]
 |.pto xs,_=>by simp only[ren]
 |.row r,h=>by simp only[AV.stay]at h;simp only[ren,y9a,j9m h]
 |.prow r i j,h=>by simp[AV.stay]at h
 |.clo k xs,h=>by simp only[ren,q6w xs (by simpa only[AV.stay]using h)]
 |.err b,_=>by simp only[ren]
theorem q6w {ρ:List (Nat×RM)} {hp:Nat→Option q0d}:∀xs:List AV,y1z ρ xs=true→y6d ρ hp xs=xs
 |[],_=>by simp only[y6d]
 |x::l,h=>by simp only[y1z,Qa2]at h;simp only[y6d,j6e x h.1,q6w l h.2]
end
theorem k0b {ρ:List (Nat×RM)} {hp:Nat→Option q0d} {o:q0d} (h:o.stay ρ=true):u5y ρ hp o=o:=by
 cases o with
 |box cs=>simp only[u5y,q6w cs h]
 |row e l=>rfl
 |other b o=>rfl
 |mset ks=>rfl
 |mfun ks cs=>simp only[u5y,q6w cs h]
theorem q7m {α:Type} {k:Nat}:∀{a b:List (Nat×α)},look k (a++b)=match look k a with|some x=>some x|none=>look k b
 |[],b=>rfl
 |(j,x)::a,b=>by
  simp only[Qc9,look]
  cases Nat.beq j k with
  |true=>rfl
  |false=>exact q7m
theorem z4g {ks:List Nat} {i:Nat} {x:AV}:∀{E:Env},look i (z5m ks E)=some x→look i E=some x∧i∈ks
 |[],h=>by cases h
 |(j,y)::l,h=>by
  simp only[z5m]at h
  cases hm:q5q j ks with
  |true=>
   rw[hm]at h
   simp only[cond_true,look]at h⊢
   by_cases e:j=i
   ·subst e;rw[q6x]at h⊢;exact⟨h,q1v.1 hm⟩
   ·rw[q4x e]at h⊢;exact z4g h
  |false=>
   rw[hm]at h
   simp only[cond_false]at h
   have:=z4g h
   refine⟨?_,this.2⟩
   unfold look
   by_cases e:j=i
   ·subst e;rw[q1v.2 this.2]at hm;cases hm
   ·rw[q4x e];exact this.1
theorem q9w {ns:List Nat} {i:Nat}:∀{H:Hp},i∈ns→look i (z0w ns H)=look i H
 |[],_=>rfl
 |(j,y)::l,h=>by
  simp only[z0w]
  cases hm:q5q j ns with
  |true=>
   simp only[cond_true,look]
   by_cases e:j=i
   ·subst e;rw[q6x];rfl
   ·rw[q4x e];exact q9w h
  |false=>
   simp only[cond_false,look]
   by_cases e:j=i
   ·subst e;rw[q1v.2 h]at hm;cases hm
   ·rw[q4x e];exact q9w h
theorem j4v {ns:List Nat} {i:Nat} {o:q0d}:∀{H:Hp},(i,o)∈z0w ns H→i∈ns
 |[],h=>by cases h
 |(j,y)::l,h=>by
  simp only[z0w]at h
  cases hm:q5q j ns with
  |true=>
   rw[hm]at h
   rcases List.mem_cons.1 h with e|e
   ·cases e;exact q1v.1 hm
   ·exact j4v e
  |false=>rw[hm]at h;exact j4v h
section
variable {cx:Cx} {ops:Array Oper}
theorem z8t:∀{l:List (Nat×Oper)} {S Sf:St} {ps:List Prop} {R:List Rec},q2d cx ops l S=some (ps,Sf,R)→x5k cx ops l S=some (ps,Sf)
 |[],S,Sf,ps,R,h=>by simp only[q2d,Option.some.injEq,Prod.mk.injEq]at h;obtain⟨rfl,rfl,_⟩:=h;rfl
 |(i,o)::l,S,Sf,ps,R,h=>by
  simp only[q2d]at h
  simp only[x5k]
  cases hs:q1f cx ops (1000+i) o S with
  |none=>rw[hs]at h;cases h
  |some t=>
   obtain⟨p,v,hs'⟩:=t
   rw[hs]at h
   simp only at h⊢
   cases hr:q2d cx ops l (S.put o.dst v hs')with
   |none=>rw[hr]at h;cases h
   |some t2=>
    obtain⟨q,S',R'⟩:=t2
    rw[hr]at h
    simp only[Option.some.injEq,Prod.mk.injEq]at h
    obtain⟨rfl,rfl,_⟩:=h
    rw[z8t hr]
theorem q9o {i:Nat}:∀{l:List (Nat×Oper)} {S Sf:St} {ps:List Prop} {R:List Rec},q2d cx ops l S=some (ps,Sf,R)→(∀x∈l,x.2.dst≠some i)→Sf.env i=S.env i
 |[],S,Sf,ps,R,h,_=>by simp only[q2d,Option.some.injEq,Prod.mk.injEq]at h;obtain⟨_,rfl,_⟩:=h;rfl
 |(j,o)::l,S,Sf,ps,R,h,hn=>by
  simp only[q2d]at h
  cases hs:q1f cx ops (1000+j) o S with
  |none=>rw[hs]at h;cases h
  |some t=>
   obtain⟨p,v,hs'⟩:=t
   rw[hs]at h
   simp only at h
   cases hr:q2d cx ops l (S.put o.dst v hs')with
   |none=>rw[hr]at h;cases h
   |some t2=>
    obtain⟨q,S',R'⟩:=t2
    rw[hr]at h
    simp only[Option.some.injEq,Prod.mk.injEq]at h
    obtain⟨_,rfl,_⟩:=h
    rw[q9o hr fun x hx=>hn x (Qb7 _ hx)]
    have h0:=hn (j,o) Qb4
    unfold St.put
    cases hd:o.dst with
    |none=>rfl
    |some d=>
     have:i≠d:=fun e=>h0 (by rw[e];exact hd)
     simp only[upd]
     rw[q4x this]
     rfl
theorem z9i {r:Nat}:∀{l:List (Nat×Oper)} {S Sf:St} {ps:List Prop} {R:List Rec},q2d cx ops l S=some (ps,Sf,R)→(∀a∈R,r∉a.N)→Sf.heap r=S.heap r
 |[],S,Sf,ps,R,h,_=>by simp only[q2d,Option.some.injEq,Prod.mk.injEq]at h;obtain⟨_,rfl,_⟩:=h;rfl
 |(j,o)::l,S,Sf,ps,R,h,hn=>by
  simp only[q2d]at h
  cases hs:q1f cx ops (1000+j) o S with
  |none=>rw[hs]at h;cases h
  |some t=>
   obtain⟨p,v,hs'⟩:=t
   rw[hs]at h
   simp only at h
   cases hr:q2d cx ops l (S.put o.dst v hs')with
   |none=>rw[hr]at h;cases h
   |some t2=>
    obtain⟨q,S',R'⟩:=t2
    rw[hr]at h
    simp only[Option.some.injEq,Prod.mk.injEq]at h
    obtain⟨_,rfl,rfl⟩:=h
    rw[z9i hr fun a ha=>hn a (Qb7 _ ha)]
    exact q2n (hn _ Qb4)
end
def z9l (m:Nat) (ops:Array Oper) (n:Nat) (ρ:List (Nat×RM)) (ks ns:List Nat) (E:Env) (H:Hp) (Sf:St) (R:List Rec):Bool:=
 q8q n (q2v 0 ops.toList)&&(z0j m ρ&&(q8a ρ Sf.heap&&(Nat.ble ops.size 1000&&((q2v 0 ops.toList).all (fun x=>match x.2.dst with|some d=> !q5q d ks|none=>true)&&((z5m ks E).all (fun x=>x.2.stay ρ)&&
  (ns.all (fun r=>R.all fun a=> !q5q r a.N)&&(z0w ns H).all (fun x=>x.2.stay ρ)))))))
def q7r (ρ:List (Nat×RM)) (ns:List Nat):List (Nat×RM):=ρ++ns.map fun r=>(r,.to r)
def u6o (draw:Bool) (cx:Cx) (m:Nat) (ops:Array Oper) (wt:List Nat) (n:Nat) (ρ:List (Nat×RM)) (keys ks ns:List Nat) (E:Env) (H:Hp):Option (List Prop×Env×Hp):=
 match q2d cx ops (q2v 0 ops.toList) (q5i E H)with
 |some (ps,Sf,R)=>
  bif z9l m ops n (q7r ρ ns) ks ns E H Sf R&&(bif draw then z3h (q2v 0 ops.toList)&&(k8g ops wt&&q4y ops wt R)else true)then
   some (ps,q4d (q7r ρ ns) Sf keys,q1y (q7r ρ ns) Sf.heap ρ)else none
 |none=>none
theorem u2z {ops:Array Oper} {ks:List Nat} (h:(q2v 0 ops.toList).all (fun x=>match x.2.dst with|some d=> !q5q d ks|none=>true)=true) {i:Nat} (hi:i∈ks):∀x∈q2v 0 ops.toList,x.2.dst≠some i:=by
 intro x hx hd
 have:=(List.all_eq_true.1 h) x hx
 rw[hd]at this
 simp only[q1v.2 hi]at this
 cases this
theorem z0o.delta {w0:Base} {G0:Nat→Prop} {n:Nat} {U:Nat→Prop} {cx:Cx} {ops:Array Oper} {ρ:List (Nat×RM)} {keys ks ns:List Nat} {E:Env} {H:Hp} {Sf:St} {ps:List Prop} {R:List Rec} {a:Act} {W:World}
 (hrun:q2d cx ops (q2v 0 ops.toList) (q5i E H)=some (ps,Sf,R)) (hok:z9l w0.m ops n (q7r ρ ns) ks ns E H Sf R=true) (h:z0o w0 G0 n U Sf a W) (hm1000:w0.m≤1000):
 z0o w0 G0 n (fun r=>r<1000∧(r<w0.m∨(look r (q1y (q7r ρ ns) Sf.heap ρ++z0w ns H)).isSome=true)) (q5i (q4d (q7r ρ ns) Sf keys++z5m ks E) (q1y (q7r ρ ns) Sf.heap ρ++z0w ns H)) a W:=by
 simp only[z9l,Qa2]at hok
 obtain⟨_,hρ,hlv,_,hoff,hst,hN,hsto⟩:=hok
 have hn2:nodup ((q7r ρ ns).map (·.1))=true:=by have h0:=hρ;simp only[z0j,Qa2]at h0;exact h0.1.2
 have hns:∀r∈ns,look r (q7r ρ ns)=some (.to r):=fun r hr=>z5z hn2 (Qe9 _ (List.mem_map.2 ⟨r,hr,rfl⟩))
 have hheap:∀r∈ns,Sf.heap r=look r H:=fun r hr=>z9i hrun fun x hx hm=>by
  have:=(List.all_eq_true.1 ((List.all_eq_true.1 hN) r hr)) x hx
  rw[q1v.2 hm]at this
  cases this
 refine h.renG hm1000 hρ (env':=q1t (q4d (q7r ρ ns) Sf keys++z5m ks E)) (hp':=fun r=>look r (q1y (q7r ρ ns) Sf.heap ρ++z0w ns H)) (fun i=>?_) (fun r' o' hl=>?_) (fun r r' hr=>?_)
 ·have h1:=z8s (ρ:=q7r ρ ns) (S:=Sf) (keys:=keys) i
  unfold q1t at h1⊢
  rw[q7m]
  cases hl:look i (q4d (q7r ρ ns) Sf keys)with
  |some x=>rw[hl]at h1;exact h1
  |none=>
   simp only
   cases hk:look i (z5m ks E)with
   |none=>exact .inl rfl
   |some x=>
    right
    obtain⟨k1,k2⟩:=z4g hk
    have hx:=(List.all_eq_true.1 hst) _ (q1p hk)
    have he:Sf.env i=x:=by
     rw[q9o hrun (u2z hoff k2)]
     show q1t E i=x
     unfold q1t
     rw[k1]
    rw[he]
    exact(j6e x hx).symm
 ·replace hl:look r' (q1y (q7r ρ ns) Sf.heap ρ++z0w ns H)=some o':=hl
  rw[q7m]at hl
  cases hl1:look r' (q1y (q7r ρ ns) Sf.heap ρ)with
  |some o=>
   rw[hl1]at hl
   cases hl
   obtain⟨r,o,h1,h2,h3⟩:=q5n (q1p hl1)
   exact⟨r,o,z5z hn2 (Qd7 _ h1),h2,h3⟩
  |none=>
   rw[hl1]at hl
   simp only at hl
   have hr:=j4v (q1p hl)
   refine⟨r',o',hns r' hr,?_,?_⟩
   ·rw[hheap r' hr,←hl,q9w hr]
   ·exact(k0b ((List.all_eq_true.1 hsto) _ (q1p hl))).symm
 ·rw[q7m]
  obtain⟨o,ho⟩:=Option.isSome_iff_exists.1 ((List.all_eq_true.1 hlv) _ (q1p hr))
  rcases List.mem_append.1 (q1p hr)with h1|h1
  ·obtain⟨x,hx⟩:=Option.isSome_iff_exists.1 (z5a (ρ:=q7r ρ ns) ho h1)
   rw[hx];rfl
  ·obtain⟨y,hy,e⟩:=List.mem_map.1 h1
   cases e
   cases look r (q1y (q7r ρ ns) Sf.heap ρ)with
   |some x=>rfl
   |none=>
    simp only
    rw[q9w hy,←hheap r hy,ho]
    rfl
section
variable {k:Ct} {E En:Env} {H Hn:Hp} {Q:Exit→Act→World→Prop} {ops:Array Oper} {id:Nat} {ρ:List (Nat×RM)} {keys ks ns:List Nat} {ps:List Prop}
theorem k4z (hcx:q1c k.P k.cx) (ρ:List (Nat×RM)) (keys ks ns:List Nat) (ps:List Prop) (En:Env) (Hn:Hp) (h:u6o false k.cx k.w0.m ops [] k.n ρ keys ks ns E H=some (ps,En,Hn)) (hp:q3n ps) (hf:Fin k (En++z5m ks E) (Hn++z0w ns H) Q .normal):Tri k E H (.region id ops false) Q:=by
 intro a W hs
 unfold u6o at h
 cases hr:q2d k.cx ops (q2v 0 ops.toList) (q5i E H)with
 |none=>rw[hr]at h;cases h
 |some t=>
  obtain⟨ps',Sf,R⟩:=t
  rw[hr]at h
  simp only at h
  cases hb:z9l k.w0.m ops k.n (q7r ρ ns) ks ns E H Sf R with
  |false=>rw[hb]at h;cases h
  |true=>
   rw[hb]at h
   simp only[cond_false,Bool.and_true,cond_true,Option.some.injEq,Prod.mk.injEq]at h
   obtain⟨rfl,rfl,rfl⟩:=h
   have hb0:=hb
   simp only[z9l,Qa2]at hb0
   exact wpIn_region_list (x4r hcx (fun a W hsim=>hf a W (hsim.delta hr hb hs.m_le)) ops.toList 0 a W _ ps' hb0.1 (hs.weaken fun _ h=>.inl h.1) (by have:=Qc3 hb0.2.2.2.1;simpa using this) (z8t hr) hp)
theorem x8l (wt:List Nat) (hcx:q1c k.P k.cx) (hmx:k.P.follows .mixedOrders=true) (ρ:List (Nat×RM)) (keys ks ns:List Nat) (ps:List Prop) (En:Env) (Hn:Hp) (h:u6o true k.cx k.w0.m ops wt k.n ρ keys ks ns E H=some (ps,En,Hn)) (hp:q3n ps) (hf:Fin k (En++z5m ks E) (Hn++z0w ns H) Q .normal):Tri k E H (.region id ops true) Q:=by
 intro a W hs
 unfold u6o at h
 cases hr:q2d k.cx ops (q2v 0 ops.toList) (q5i E H)with
 |none=>rw[hr]at h;cases h
 |some t=>
  obtain⟨ps',Sf,R⟩:=t
  rw[hr]at h
  simp only at h
  cases hb:z9l k.w0.m ops k.n (q7r ρ ns) ks ns E H Sf R with
  |false=>rw[hb]at h;cases h
  |true=>
   rw[hb]at h
   simp only[cond_true,Qk6]at h
   cases hb2:(z3h (q2v 0 ops.toList)&&(k8g ops wt&&q4y ops wt R))with
   |false=>rw[hb2]at h;cases h
   |true=>
    rw[hb2]at h
    simp only[cond_true,Option.some.injEq,Prod.mk.injEq]at h
    obtain⟨rfl,rfl,rfl⟩:=h
    have hb0:=hb
    simp only[z9l,Qa2]at hb0 hb2
    obtain⟨h3,hwt,h4⟩:=hb2
    have hrem:q4k ops (Array.replicate ops.size false)=q2v 0 ops.toList:=by
     unfold q4k
     refine List.filter_eq_self.2 fun x hx=>?_
     have:=z2f hx
     have hlt:x.1<ops.size:=by
      have:=(List.getElem?_eq_some_iff.1 this).1
      simpa using this
     simp[Array.getD,hlt]
    have hlen:∀(l:List Oper) (j:Nat),(q2v j l).length=l.length:=by
     intro l
     induction l with
     |nil=>intro j;rfl
     |cons x l ih=>intro j;simp[q2v,ih]
    refine wpIn_region_any hmx (k0f hwt (Qc3 hb0.2.2.2.1) hcx h3 hb0.1 (fun a W hsim=>hf a W (hsim.delta hr hb hs.m_le)) ops.size _ a _ _ ps' R (by simp) ?_ ?_ (hs.drew.weaken ?_) (by rw[hrem];exact hr) h4 hp)
    ·intro j o hj hl
     simp[Array.getD]at hl
    ·rw[hrem,hlen];simp
    ·intro r hr
     exact .inl hr.1
theorem az:q3n []:=trivial
theorem ap {p:Prop} {l:List Prop} (h:p) (h':q3n l):q3n (p::l):=q6p.2 ⟨h,h'⟩
end
end
end Go.Proofs.YteikjpbbhopkaaaGreatDoor.En
namespace Go.Proofs.YteikjpbbhopkaaaGreatDoor.En
section
open Go Go.RowKit
theorem q2j {b:Bool} (h:b=false):(!b)=true:=by rw[h];rfl
inductive Kd where
 |id
 |ld (l:LD)
 |agg (ks:List Kd)
def x7b (l:LD):AV→AV
 |.im (.val (.slice none 0 0))=>.im (.ls l)
 |x=>x
mutual
def coe:Kd→AV→AV
 |.id,x=>x
 |.ld l,x=>x7b l x
 |.agg ks,.agg xs=>.agg (k9k ks xs)
 |.agg _,x=>x
def k9k:List Kd→List AV→List AV
 |k::ks,x::xs=>coe k x::k9k ks xs
 |_,xs=>xs
end
mutual
def Kd.ok:Kd→Bool
 |.id=>true
 |.ld l=>Nat.beq l.len 0
 |.agg ks=>okL ks
def okL:List Kd→Bool
 |[]=>true
 |k::ks=>k.ok&&okL ks
end
theorem x4c {g:Gh} {l:LD} (hl:l.len=0) {x:AV} {u:Value} (hd:Den g x u):Den g (x7b l x) u:=by
 unfold x7b
 split
 ·rw[q0b hd];simp only[Den];exact .nil l none 0 hl
 ·exact hd
mutual
theorem u5r {g:Gh}:∀(k:Kd) (x:AV) (u:Value),k.ok=true→Den g x u→Den g (coe k x) u
 |.id,x,u,_,hd=>by simpa only[coe]using hd
 |.ld l,x,u,hk,hd=>by simp only[coe];exact x4c (Qb0 (by simpa only[Kd.ok]using hk)) hd
 |.agg ks,x,u,hk,hd=>by
  cases x with
  |agg xs=>simp only[coe,Den]at hd⊢;obtain⟨vs,e,hl⟩:=hd;exact⟨vs,e,j7b ks xs vs (by simpa only[Kd.ok]using hk) hl⟩
  |_=>simpa only[coe]using hd
theorem j7b {g:Gh}:∀(ks:List Kd) (xs:List AV) (us:List Value),okL ks=true→q0e g xs us→q0e g (k9k ks xs) us
 |[],xs,us,_,hd=>by simpa only[k9k]using hd
 |k::ks,[],us,_,hd=>by simpa only[k9k]using hd
 |k::ks,x::xs,us,hk,hd=>by
  simp only[okL,Qa2]at hk
  simp only[k9k,q0e]at hd⊢
  obtain⟨v,vs',e,h1,h2⟩:=hd
  exact⟨v,vs',e,u5r k x v hk.1 h1,j7b ks xs vs' hk.2 h2⟩
end
def q1j (ks:List Kd) (σ:CtF):CtF:=fun args os=>σ (k9k ks args) os
theorem q0c.coe {P:Program} {f:Nat} {σ:CtF} (h:q0c P f σ) (ks:List Kd) (hk:okL ks=true):q0c P f (q1j ks σ):=
 ⟨h.1,fun g args os vs p r outs hs hp hm hU hd=>h.2 g (k9k ks args) os vs p r outs hs hp hm hU (j7b ks args vs hk hd)⟩
theorem q8w {W:World} {G:Nat→Prop} {xs:List Int} {v:Value} (h:Rep W G (.ls (.ints xs)) v) (hG:∀b,G b→b<W.heap.size):∃A c,v=.slice A xs.length c∧Rd I64 (· <W.heap.size) W A xs∧xs.length≤maxLen:=by
 rcases h.cases_ls with⟨h0,A,c,rfl⟩|⟨b,off,c,u,rfl,h1,h2,h3,h4,h5⟩
 ·simp only[LD.len]at h0
  refine⟨A,c,by rw[h0],fun hn=>by omega,by rw[h0];exact Qc1 _⟩
 ·refine⟨_,c,rfl,fun _=>⟨b,off,rfl,hG b h3,fun j hj=>?_⟩,h2⟩
  have hc:=h4 j 0 hj Nat.one_pos
  have hr:=h5 j 0 hj Nat.one_pos
  simp only[LD.st,Qf6,Qd9]at hc
  have hu:u j 0=.int .i64 (xs.getD j 0):=q0b (g:=⟨W,G,fun _=>undef,fun _=>False⟩) (by simp only[Den];exact hr)
  rw[hc,hu]
  simp[List.getD,Qa0 hj]
theorem z3n {W:World} {G:Nat→Prop} {e:Nat} {v:Value} {xs:List Int} (h:Own W e v (xs.map I64)) (hm:xs.length≤maxLen) (hG:∀b,v.ownBlock=some b→G b):Rep W G (.ls (.ints xs)) v:=
 k1v h (by simp[LD.len]) hm rfl (fun i hi=>by
  have hi':i<xs.length:=hi
  have:(xs.map I64).getD i undef=.int .i64 (xs.getD i 0):=by simp[List.getD,Qa0 hi',I64]
  rw[this]
  exact .val _) (fun b hb=>hG b (by rw[←q7g h];exact hb))
end
end Go.Proofs.YteikjpbbhopkaaaGreatDoor.En
namespace Go.Proofs.YteikjpbbhopkaaaGreatDoor.En
open Go Go.RowKit
theorem u4t (o:q0d):y3g id o=o:=by cases o<;>simp[y3g,q5w]
def grew (Z:Nat→Prop) (W W':World) (b:Nat):Prop:=Z b∨(W.heap.size≤b∧b<W'.heap.size)
def u1p (P:Program) (gf:Nat) (lb:Array Value) (KR:World→World→Prop) (N:Nat) (xs:Nat→Array Value) (w:World):Prop:=
 ∀(l:Nat) (J Jx:Nat→(Nat→Prop)→World→Prop) (Z:Nat→Prop) (W:World),KR w W→
  (∀i Z W W',J i Z W→Kp Z W W'→J i (grew Z W W') W')→(∀i Z W W',Jx i Z W→Kp Z W W'→Jx i (grew Z W W') W')→
  (∀i Z W1,i<N→J i Z W1→YieldAt (FR none) 2 P l (xs i) W1 fun e W'=>
   ((e=.returned (.bool true)∧J (i+1) Z W')∨(e=.returned (.bool false)∧Jx (i+1) Z W'))∧KR W1 W'∧(∀b,Z b→W'.heap[b]? =W1.heap[b]?)∧W1.heap.size≤W'.heap.size)→
  J 0 Z W→Calls P gf (#[.func (.yield l) #[] #[]]++lb) W fun e W'=>(∃v,e=.returned v)∧((∃Z,J N Z W')∨∃i Z,Jx i Z W')
def KRG (G:Nat→Prop) (A B:World):Prop:=∀b,G b→B.heap[b]? =A.heap[b]?
def ItF:=List AV→Option (Prop×Nat×(Nat→List AV))
def z2s (P:Program) (gf:Nat) (σ:ItF):Prop:=
 (∀args W,(callFunc gf args).run P W=.ok (.enter gf args) W)∧
 ∀W G caps vs p N el,(∀b,G b→b<W.heap.size)→j2i ⟨W,G,fun _=>undef,fun _=>False⟩→σ caps=some (p,N,el)→p→q0e ⟨W,G,fun _=>undef,fun _=>False⟩ caps vs→
  ∃xs:Nat→Array Value,(∀i,i<N→q0e ⟨W,G,fun _=>undef,fun _=>False⟩ (el i) (xs i).toList)∧u1p P gf vs.toArray (KRG G) N xs W
def y1r (E:Env):List Nat→List AV→Env
 |p::ps,x::xs=>y1r ((p,x)::E) ps xs
 |_,_=>E
theorem j9z {g:Gh} {n:Nat}:∀{ps:List Nat} {el:List AV} {vs:List Value} {E:Env} {t:Array Value},ps.all (fun p=>Nat.blt p n)=true→t.size=n→el.length=ps.length→q0e g el vs→(∀i,Den g (q1t E i) (t.getD i undef))→
 (∀i,Den g (q1t (y1r E ps el) i) (((ps.zip vs).foldl (fun t (x:Nat×Value)=>t.setIfInBounds x.1 x.2) t).getD i undef))∧((ps.zip vs).foldl (fun t (x:Nat×Value)=>t.setIfInBounds x.1 x.2) t).size=n
 |[],[],vs,E,t,_,ht,_,_,h=>by simp only[y1r,Qp9,Qm6];exact⟨h,ht⟩
 |[],_::_,_,_,_,_,_,hl,_,_=>by simp at hl
 |_::_,[],_,_,_,_,_,hl,_,_=>by simp at hl
 |p::ps,x::el,vs,E,t,hp,ht,hl,hd,h=>by
  simp only[q0e]at hd
  obtain⟨v,vs',rfl,h1,h2⟩:=hd
  simp only[Qj8,Qa2]at hp
  have hpn:p<t.size:=by rw[ht];have:=Qc3 hp.1;omega
  simp only[Qh5,Qe2,y1r]
  refine j9z hp.2 (by simpa using ht) (by simpa using hl) h2 fun i=>?_
  show Den g (match look i ((p,x)::E)with|some x=>x|none=>.any) _
  unfold look
  by_cases e:p=i
  ·subst e
   rw[q6x]
   simp only[cond_true]
   rw[Qf3,Array.getElem?_setIfInBounds_self,if_pos hpn]
   exact h1
  ·rw[q4x e]
   simp only[cond_false]
   rw[Qf3,Qn5 e,←Qf3]
   exact h i
def hasAll (H:Hp) (m:Nat):Nat→Bool
 |0=>true
 |k+1=>(look (m+k) H).isSome&&hasAll H m k
def q3g (m M rn:Nat) (H:Hp):Bool:=hasAll H m (M-m)&& !q5q rn (H.map (·.1))&&H.all fun x=> !q5q rn x.2.refs
theorem j2z {H:Hp} {m:Nat}:∀{k:Nat},hasAll H m k=true→∀r,m≤r→r<m+k→(look r H).isSome=true
 |0,_,r,h1,h2=>by omega
 |k+1,h,r,h1,h2=>by
  simp only[hasAll,Qa2]at h
  rcases Qi7 r (m+k)with h3|h3
  ·exact j2z h.2 r h1 h3
  ·rw[show r=m+k by omega];exact h.1
theorem k2w {H:Hp} {r:Nat} (h:q5q r (H.map (·.1))=false):look r H=none:=by
 cases hl:look r H with
 |none=>rfl
 |some o=>
  have:q5q r (H.map (·.1))=true:=q1v.2 (Qp5 (q1p hl))
  rw[this]at h
  cases h
structure StJ (k:Ct) (g0:Gh) (M:Nat) (H:Hp) (Z:Nat→Prop) (g:Gh) (W:World):Prop where
 w:g.W=W
 sz:g0.W.heap.size≤W.heap.size
 keep:∀b,g0.G b→W.heap[b]? =g0.W.heap[b]?∧g.G b
 fix:∀r,r<M→g.U r∧g.β r=g0.β r
 bd:∀r,g.U r→r<1000∧(r<M∨(look r H).isSome=true)
 ok:MOk k.w0 k.G0 g (fun r=>look r H)
 far:∀b,Z b→(g0.W.heap.size≤b∧b<W.heap.size)∧¬g.G b∧∀r o,look r H=some o→q1k (g.β r)≠some b
theorem StJ.imp {k:Ct} {g0 g:Gh} {M:Nat} {H:Hp} {Z Z':Nat→Prop} {W:World} (h:StJ k g0 M H Z g W) (hz:∀b,Z' b→Z b):StJ k g0 M H Z' g W:={h with far:=fun b hb=>h.far b (hz b hb)}
theorem StJ.step {k:Ct} {g0 g:Gh} {M:Nat} {H:Hp} {Z:Nat→Prop} {W W':World} (h:StJ k g0 M H Z g W) (h0:k.w0.w.heap.size≤g0.W.heap.size) (hk:Kp Z W W'):∃g',StJ k g0 M H (grew Z W W') g' W':=by
 obtain⟨rfl,h6,h1,h2,h3,h4,h5⟩:=h
 let g':Gh:=⟨W',g.G,g.β,g.U⟩
 have hkG:∀b,g.G b→W'.heap[b]? =g.W.heap[b]? :=fun b hb=>hk.block b (h4.gb b hb).1 fun hz=>(h5 b hz).2.1 hb
 have hle:g.le g':=⟨hkG,fun _ hb=>hb,fun _ hr=>⟨hr,rfl⟩⟩
 refine⟨g',rfl,Qc0 h6 hk.size,fun b hb=>⟨(hkG b (h1 b hb).2).trans (h1 b hb).1,(h1 b hb).2⟩,h2,h3,⟨fun r o hr=>?_,h4.sep,h4.own,fun b hb=>⟨Qc2 (h4.gb b hb).1 hk.size,(h4.gb b hb).2⟩,?_,h4.anc_up hle⟩,fun b hb=>?_⟩
 ·obtain⟨hu,ho⟩:=h4.ok r o hr
  exact⟨hu,ho.up hle fun b hb=>hk.block b (ho.lt hb) fun hz=>(h5 b hz).2.2 r o hr hb⟩
 ·refine⟨hk.os.trans h4.bel.os,hk.tape.trans h4.bel.tape,hk.output.trans h4.bel.output,Qc0 h4.bel.size hk.size,fun b hb hno=>?_⟩
  refine(hk.block b (Qc2 hb h4.bel.size) fun hz=>?_).trans (h4.bel.block b hb hno)
  have:=(h5 b hz).1.1
  omega
 ·rcases hb with hb|hb
  ·obtain⟨p1,p2,p3⟩:=h5 b hb
   exact⟨⟨p1.1,Qc2 p1.2 hk.size⟩,p2,p3⟩
  ·refine⟨⟨Qc0 h6 hb.1,hb.2⟩,fun hg=>?_,fun r o hr hbk=>?_⟩
   ·have:=(h4.gb b hg).1;omega
   ·have:=(h4.ok r o hr).2.lt hbk;omega
theorem MOk.put {w0:Base} {G0:Nat→Prop} {g:Gh} {Hf:Nat→Option q0d} {r b:Nat} {o:Obj} (o':Obj) (h:MOk w0 G0 g Hf) (hr:Hf r=some (.other b o)):
 g.le ⟨g.W.putObj b o',g.G,g.β,g.U⟩∧MOk w0 G0 ⟨g.W.putObj b o',g.G,g.β,g.U⟩ (upd Hf r (some (.other b o'))):=by
 obtain⟨hle,hm⟩:=h.take o' hr
 obtain⟨hv,hw⟩:=(h.ok r _ hr).2
 have hupd:∀x o,upd Hf r (some (.other b o')) x=some o→(x=r∧o=.other b o')∨(x≠r∧Hf x=some o):=by
  intro x o hx
  unfold upd at hx
  by_cases e':x=r
  ·subst e';rw[q6x]at hx;cases hx;exact .inl ⟨rfl,rfl⟩
  ·rw[q4x e']at hx;exact .inr ⟨e',hx⟩
 have hold:∀x o,upd Hf r (some (.other b o')) x=some o→∃p,Hf x=some p:=fun x o hx=>by
  rcases hupd x o hx with⟨rfl,_⟩|⟨_,hx⟩
  ·exact⟨_,hr⟩
  ·exact⟨_,hx⟩
 refine⟨hle,fun x o hx=>?_,fun x x' o o' b hx hx'=>?_,fun x o b hx=>?_,hm.gb,hm.bel,hm.anc⟩
 ·rcases hupd x o hx with⟨rfl,rfl⟩|⟨hne,hx⟩
  ·exact⟨(h.ok _ _ hr).1,hv,World.putObj_heap_same (Array.getElem?_eq_some_iff.1 hw).1⟩
  ·have:upd Hf r none x=some o:=by unfold upd;rw[q4x hne];exact hx
   exact hm.ok x o this
 ·obtain⟨p,hp⟩:=hold x o hx
  obtain⟨p',hp'⟩:=hold x' o' hx'
  exact h.sep x x' p p' b hp hp'
 ·obtain⟨p,hp⟩:=hold x o hx
  exact h.own x p b hp
theorem q1a {α:Type} {r:Nat} {x:α} {l:List (Nat×α)} (i:Nat):look i ((r,x)::l)=if i=r then some x else look i l:=by
 show(bif Nat.beq r i then some x else look i l)=_
 by_cases e:i=r
 ·subst e;rw[q6x,if_pos rfl];rfl
 ·rw[q4x (Ne.symm e),if_neg e];rfl
theorem Sim.put {k:Ct} {E:Env} {H:Hp} {a:Act} {W:World} {r b:Nat} {o:Obj} (o':Obj) (h:Sim k E ((r,.other b o)::H) a W):Sim k E ((r,.other b o')::H) a (W.putObj b o'):=by
 obtain⟨h1,h2,g,rfl,h4,h5,h6⟩:=h
 have hr:(q5i E ((r,.other b o)::H)).heap r=some (.other b o):=by show look r _=_;rw[q1a,if_pos rfl]
 obtain⟨hle,hm⟩:=h5.put o' hr
 refine⟨h1,h2,_,rfl,fun x hx=>?_,?_,fun i=>Den.mono hle _ _ (h6 i)⟩
 ·obtain⟨p1,p2⟩:=h4 x hx
  refine⟨p1,p2.imp id fun h=>?_⟩
  rw[q1a]at h⊢
  split
  ·rfl
  ·rename_i hne;rw[if_neg hne]at h;exact h
 ·have e:upd (q5i E ((r,.other b o)::H)).heap r (some (.other b o'))=(q5i E ((r,.other b o')::H)).heap:=by
   funext x
   show upd (fun x=>look x ((r,.other b o)::H)) r (some (.other b o')) x=look x ((r,.other b o')::H)
   unfold upd
   simp only[q1a]
   by_cases e:x=r
   ·subst e;simp[q6x]
   ·simp[q4x e,e]
  rw[e]at hm
  exact hm
theorem Sim.other {k:Ct} {E:Env} {H:Hp} {a:Act} {W:World} {r b:Nat} {o:Obj} (h:Sim k E ((r,.other b o)::H) a W):W.heap[b]? =some o:=by
 obtain⟨_,_,g,rfl,_,h5,_⟩:=h
 have hr:(q5i E ((r,.other b o)::H)).heap r=some (.other b o):=by show look r _=_;rw[q1a,if_pos rfl]
 exact(h5.ok r _ hr).2.2
def kR (k:Ct) (M:Nat) (Wr:World) (Or:Nat→Prop) (βr:Nat→Value) (Gr:Nat→Prop) (l:Nat):Ct:=⟨k.P,k.cx,⟨Wr,Or,M,βr,[]⟩,Gr,k.n,some l⟩
def β1 (g:Gh) (rn l:Nat) (r:Nat):Value:=if r=rn then .pointer (some ⟨l,0,none⟩)else g.β r
def Or1 (g:Gh) (H:Hp) (rn l:Nat) (b:Nat):Prop:=b=l∨∃r o,look r H=some o∧q1k (g.β r)=some b
def g1 (g:Gh) (rn l:Nat):Gh:=⟨g.W,g.G,β1 g rn l,fun r=>g.U r∨r=rn⟩
theorem q9l {m M rn:Nat} {H:Hp} (h:q3g m M rn H=true):(∀r,m≤r→r<M→(look r H).isSome=true)∧look rn H=none∧∀r o,look r H=some o→rn∉o.refs:=by
 simp only[q3g,Qa2,Qd1]at h
 refine⟨fun r h1 h2=>j2z h.1.1 r h1 (by omega),k2w h.1.2,fun r o hr hin=>?_⟩
 have:=(List.all_eq_true.1 h.2) _ (q1p hr)
 simp only[Qd1]at this
 rw[q1v.2 hin]at this
 cases this
section
variable {k:Ct} {g0 g:Gh} {M rn l:Nat} {H H1:Hp} {Z:Nat→Prop} {W W3:World}
theorem StJ.enter (h:StJ k g0 M H Z g W) (hl:Z l) {o0:Obj} (hw:W.heap[l]? =some o0) (hfx:q3g k.w0.m M rn H=true) (hM:M≤rn) (hrn:rn<1000) (hmM:k.w0.m≤M):
 g.le (g1 g rn l)∧MOk ⟨W,Or1 g H rn l,M,β1 g rn l,[]⟩ g.G (g1 g rn l) (fun r=>look r ((rn,.other l o0)::H))∧∀r,(g1 g rn l).U r→r<1000∧(r<M∨(look r ((rn,.other l o0)::H)).isSome=true):=by
 obtain⟨rfl,h6,h1,h2,h3,h4,h5⟩:=h
 obtain⟨f1,f2,f3⟩:=q9l hfx
 have hun:¬g.U rn:=fun hu=>by
  rcases(h3 rn hu).2 with h|h
  ·omega
  ·rw[f2]at h;cases h
 have hb1:∀r,r≠rn→β1 g rn l r=g.β r:=fun r hr=>if_neg hr
 have hle:g.le (g1 g rn l):=⟨fun _ _=>rfl,fun _ hb=>hb,fun r hr=>⟨.inl hr,hb1 r (fun e=>hun (e▸hr))⟩⟩
 have hlk:∀r o,look r ((rn,q0d.other l o0)::H)=some o→(r=rn∧o=.other l o0)∨(r≠rn∧look r H=some o):=by
  intro r o hr
  rw[q1a]at hr
  split at hr
  ·rename_i e;cases hr;exact .inl ⟨e,rfl⟩
  ·rename_i e;exact .inr ⟨e,hr⟩
 obtain⟨z1,z2,z3⟩:=h5 l hl
 have hβrn:β1 g rn l rn=.pointer (some ⟨l,0,none⟩):=if_pos rfl
 refine⟨hle,⟨fun r o hr=>?_,fun r r' o o' b hr hr' hb hb'=>?_,fun r o b hr hb=>?_,fun b hb=>⟨(h4.gb b hb).1,.inl hb⟩,Kp.refl _ _,fun r hr=>⟨.inl (h2 r hr).1,rfl⟩,h4.anc.2.up hle⟩,fun r hr=>?_⟩
 ·rcases hlk r o hr with⟨rfl,rfl⟩|⟨hne,hr⟩
  ·exact⟨.inr rfl,hβrn,hw⟩
  ·obtain⟨hu,ho⟩:=h4.ok r o hr
   refine⟨.inl hu,?_⟩
   show z2a _ (β1 g rn l r) o
   rw[hb1 r hne]
   exact ho.up hle fun _ _=>rfl
 ·rcases hlk r o hr with⟨rfl,rfl⟩|⟨hne,hrx⟩<;>rcases hlk r' o' hr' with⟨rfl,rfl⟩|⟨hne',hrx'⟩
  ·rfl
  ·change q1k (β1 g _ l _)=_ at hb hb'
   rw[hβrn]at hb
   rw[hb1 _ hne']at hb'
   cases hb
   exact absurd hb' (z3 r' o' hrx')
  ·change q1k (β1 g _ l _)=_ at hb hb'
   rw[hβrn]at hb'
   rw[hb1 _ hne]at hb
   cases hb'
   exact absurd hb (z3 r o hrx)
  ·change q1k (β1 g _ l _)=_ at hb hb'
   rw[hb1 _ hne]at hb
   rw[hb1 _ hne']at hb'
   exact h4.sep r r' o o' b hrx hrx' hb hb'
 ·change q1k (β1 g _ l _)=_ at hb
  rcases hlk r o hr with⟨rfl,rfl⟩|⟨hne,hr⟩
  ·rw[hβrn]at hb
   cases hb
   exact⟨z2,.inr (.inl rfl)⟩
  ·rw[hb1 _ hne]at hb
   exact⟨(h4.own r o b hr hb).1,.inr (.inr ⟨r,o,hr,hb⟩)⟩
 ·rcases hr with hr|rfl
  ·obtain⟨p1,p2⟩:=h3 r hr
   refine⟨p1,p2.imp id fun h=>?_⟩
   rw[q1a]
   split
   ·rfl
   ·exact h
  ·exact⟨hrn,.inr (by rw[q1a,if_pos rfl];rfl)⟩
theorem StJ.back (h:StJ k g0 M H Z g W) (hl:Z l) (hfx:q3g k.w0.m M rn H=true) (hM:M≤rn) (hmM:k.w0.m≤M) (h0:k.w0.w.heap.size≤g0.W.heap.size) {E1:Env} {a:Act} {o:Obj} (o':Obj)
 (hS:Sim (kR k M W (Or1 g H rn l) (β1 g rn l) g.G l) E1 ((rn,.other l o)::H1) a W3) (hfx1:q3g k.w0.m M rn H1=true):
 (∃g4,StJ k g0 M H1 Z g4 (W3.putObj l o'))∧KRG g0.G W (W3.putObj l o')∧(∀b,Z b→b≠l→(W3.putObj l o').heap[b]? =W.heap[b]?)∧W3.heap[l]? =some o∧W.heap.size≤W3.heap.size:=by
 have hwl:=hS.other
 obtain⟨_,_,g3,rfl,b3,m3,_⟩:=hS
 obtain⟨rfl,h6,h1,h2,h3,h4,h5⟩:=h
 obtain⟨_,f2,_⟩:=q9l hfx
 obtain⟨e1,e2,e3⟩:=q9l hfx1
 obtain⟨z1,z2,z3⟩:=h5 l hl
 have hlk1:∀r o',look r H1=some o'→r≠rn∧(q5i E1 ((rn,.other l o)::H1)).heap r=some o':=by
  intro r o' hr
  have hne:r≠rn:=fun e=>by rw[e,e2]at hr;cases hr
  refine⟨hne,?_⟩
  show look r ((rn,.other l o)::H1)=some o'
  rw[q1a,if_neg hne]
  exact hr
 have hrn3:(q5i E1 ((rn,.other l o)::H1)).heap rn=some (.other l o):=by show look rn _=_;rw[q1a,if_pos rfl]
 have hbrn:g3.β rn=.pointer (some ⟨l,0,none⟩):=(m3.ok rn _ hrn3).2.1
 have hoG:∀b,Or1 g H rn l b→¬g.G b:=by
  rintro b (rfl|⟨r,o,hr,hb⟩)
  ·exact z2
  ·exact(h4.own r o b hr hb).1
 have homine:∀b,Or1 g H rn l b→k.w0.mine b:=by
  rintro b (rfl|⟨r,o,hr,hb⟩)
  ·exact .inl (Qc0 h0 z1.1)
  ·exact(h4.own r o b hr hb).2
 have hmine:∀b,(⟨g.W,Or1 g H rn l,M,β1 g rn l,[]⟩:Base).mine b→k.w0.mine b:=by
  rintro b (hb|hb)
  ·exact .inl (Qc0 h4.bel.size hb)
  ·exact homine b hb
 have hbel3:Kp (Or1 g H rn l) g.W g3.W:=m3.bel
 have hsame:∀b,b<g.W.heap.size→¬Or1 g H rn l b→(g3.W.putObj l o').heap[b]? =g.W.heap[b]? :=fun b hb hno=>
  (World.putObj_heap_other (fun e=>hno (.inl e))).trans (hbel3.block b hb hno)
 have hGs:∀b,g.G b→(g3.W.putObj l o').heap[b]? =g.W.heap[b]? :=fun b hb=>hsame b (h4.gb b hb).1 (fun ho=>hoG b ho hb)
 have hlG3:¬g3.G l:=(m3.own rn _ l hrn3 (by rw[hbrn];rfl)).1
 let gU:Gh:=⟨g3.W,g3.G,g3.β,fun r=>g3.U r∧r≠rn⟩
 let g4:Gh:=⟨g3.W.putObj l o',fun b=>g3.G b∨g.G b,g3.β,fun r=>g3.U r∧r≠rn⟩
 have hle4:gU.le g4:=⟨fun b hb=>World.putObj_heap_other (fun e=>hlG3 (e▸hb)),fun _ hb=>.inl hb,fun _ hr=>⟨hr,rfl⟩⟩
 have hleg:∀r,r<M→g3.β r=g.β r∧g3.U r:=fun r hr=>by
  obtain⟨q1,q2⟩:=m3.anc.1 r hr
  refine⟨q2.trans ?_,q1⟩
  exact if_neg (by omega)
 have hZs:∀b,Z b→b≠l→b<g.W.heap.size∧¬Or1 g H rn l b:=fun b hb hne=>by
  obtain⟨p1,p2,p3⟩:=h5 b hb
  refine⟨p1.2,?_⟩
  rintro(e|⟨r,o,hr,hbk⟩)
  ·exact hne e
  ·exact p3 r o hr hbk
 have hsz:(g3.W.putObj l o').heap.size=g3.W.heap.size:=by simp
 refine⟨⟨g4,rfl,?_,fun b hb=>⟨(hGs b (h1 b hb).2).trans (h1 b hb).1,.inr (h1 b hb).2⟩,fun r hr=>⟨⟨(hleg r hr).2,by omega⟩,(hleg r hr).1.trans (h2 r hr).2⟩,fun r hr=>?_,⟨fun r o hr=>?_,fun r r' o o' b hr hr'=>m3.sep r r' o o' b (hlk1 r o hr).2 (hlk1 r' o' hr').2,fun r o b hr hb=>?_,fun b hb=>?_,?_,fun r hr=>?_,fun kk xs hk=>?_⟩,fun b hb=>?_⟩,?_,fun b hb hne=>hsame b (hZs b hb hne).1 (hZs b hb hne).2,hwl,hbel3.size⟩
 ·rw[hsz];exact Qc0 h6 hbel3.size
 ·obtain⟨p1,p2⟩:=b3 r hr.1
  refine⟨p1,p2.imp id fun h=>?_⟩
  rw[q1a,if_neg hr.2]at h
  exact h
 ·obtain⟨hne,hr3⟩:=hlk1 r o hr
  obtain⟨hu,ho⟩:=m3.ok r o hr3
  refine⟨⟨hu,hne⟩,?_⟩
  have hmap:=ho.map (g:=g3) (g':=gU) (f:=id) rfl rfl fun x hx hxu=>⟨⟨hxu,fun e=>e3 r o hr (e▸hx)⟩,rfl⟩
  rw[u4t]at hmap
  exact hmap.up hle4 fun b hb=>World.putObj_heap_other fun e=>hne (m3.sep r rn o _ l hr3 hrn3 (e▸hb) (by rw[hbrn];rfl))
 ·obtain⟨hne,hr3⟩:=hlk1 r o hr
  obtain⟨q1,q2⟩:=m3.own r o b hr3 hb
  refine⟨fun hg=>?_,hmine b q2⟩
  rcases hg with hg|hg
  ·exact q1 hg
  ·rcases q2 with q2|q2
   ·have:=(h4.gb b hg).1
    exact absurd (show g.W.heap.size≤b from q2) (by omega)
   ·exact hoG b q2 hg
 ·rw[hsz]
  rcases hb with hb|hb
  ·obtain⟨q1,q2⟩:=m3.gb b hb
   refine⟨q1,?_⟩
   rcases q2 with q2|q2
   ·exact(h4.gb b q2).2
   ·exact .inr (hmine b q2)
  ·exact⟨Qc2 (h4.gb b hb).1 hbel3.size,(h4.gb b hb).2⟩
 ·refine⟨hbel3.os.trans h4.bel.os,hbel3.tape.trans h4.bel.tape,hbel3.output.trans h4.bel.output,by rw[hsz];exact Qc0 h4.bel.size hbel3.size,fun b hb hno=>?_⟩
  refine(hsame b (Qc2 hb h4.bel.size) fun ho=>?_).trans (h4.bel.block b hb hno)
  rcases homine b ho with h|h
  ·exact absurd hb (Nat.not_lt.2 h)
  ·exact hno h
 ·obtain⟨q1,q2⟩:=hleg r (by omega)
  exact⟨⟨q2,by omega⟩,q1.trans (h4.anc.1 r hr).2⟩
 ·obtain⟨q1,q2⟩:=h4.anc.2 kk xs hk
  exact⟨.inr q1,q2.keep (hGs kk q1)⟩
 ·obtain⟨p1,p2,p3⟩:=h5 b hb
  refine⟨⟨p1.1,by rw[hsz];exact Qc2 p1.2 hbel3.size⟩,?_,fun r o hr hbk=>?_⟩
  ·rintro(hg|hg)
   ·by_cases hbl:b=l
    ·exact hlG3 (hbl▸hg)
    ·rcases(m3.gb b hg).2 with q|q|q
     ·exact p2 q
     ·exact absurd (show g.W.heap.size≤b from q) (by omega)
     ·exact(hZs b hb hbl).2 q
   ·exact p2 hg
  ·obtain⟨hne,hr3⟩:=hlk1 r o hr
   by_cases hbl:b=l
   ·subst hbl
    exact hne (m3.sep r rn o _ b hr3 hrn3 hbk (by rw[hbrn];rfl))
   ·rcases(m3.own r o b hr3 hbk).2 with q|q
    ·exact absurd (show g.W.heap.size≤b from q) (by omega)
    ·exact(hZs b hb hbl).2 q
 ·exact fun b hb=>hGs b (h1 b hb).2
end
def RA (kr:Ct) (E:Env) (H:Hp):Exit→Act→World→Prop
 |.normal,a,W=>Sim kr E H a W
 |_,_,_=>False
def RQ {X:Type} (k:Ct) (M rn:Nat) (I:Nat→X→Prop) (HL:Nat→X→Hp) (C:Exit→Hp→Prop) (i l:Nat) (r1:Loop) (kr:Ct):Exit→Act→World→Prop
 |.normal,a,W=>∃y,I (i+1) y∧Sim kr [] ((rn,.other l (.loop r1))::HL (i+1) y) a W
 |.exit id,a,W=>∃H1,C (.exit id) H1∧q3g k.w0.m M rn H1=true∧Sim kr [] ((rn,.other l (.loop r1))::H1) a W
 |.ret,a,W=>∃H1,C .ret H1∧q3g k.w0.m M rn H1=true∧Sim kr [] ((rn,.other l (.loop r1))::H1) a W
 |_,_,_=>False
def y7p:Exit→Option Code
 |.ret=>some .ret
 |.exit id=>some (.exit id)
 |_=>none
theorem y1b (ps:Array Nat) (xs:Array Value) (t:Array Value):(ps.zip xs).foldl (fun tmps (x:Nat×Value)=>tmps.setIfInBounds x.1 x.2) t=(ps.toList.zip xs.toList).foldl (fun tmps (x:Nat×Value)=>tmps.setIfInBounds x.1 x.2) t:=by
 rw[←Qp6,Array.toList_zip]
section
variable {X:Type} {k:Ct} {E:Env} {ps:Array Nat} {assign body:Code} {N M rn:Nat} {el:Nat→List AV} (I:Nat→X→Prop) (HL:Nat→X→Hp) (EA:Nat→X→Env) (HA:Nat→X→Hp) (C:Exit→Hp→Prop)
theorem u3x {E:Env} {M:Nat} (h:(E.all fun x=>x.2.refs.all fun r=>Nat.blt r M)=true) (i:Nat):∀r∈(q1t E i).refs,r<M:=by
 intro r hr
 unfold q1t at hr
 cases hl:look i E with
 |none=>rw[hl]at hr;simp[AV.refs]at hr
 |some x=>
  rw[hl]at hr
  have:=(List.all_eq_true.1 ((List.all_eq_true.1 h) _ (q1p hl))) r hr
  have:=Qc3 this
  omega
theorem x5t {g0 g:Gh} {E:Env} {M:Nat} {t:Array Value} (hE:(E.all fun x=>x.2.refs.all fun r=>Nat.blt r M)=true) (henv:∀i,Den g0 (q1t E i) (t.getD i undef)) (hk:∀b,g0.G b→g.W.heap[b]? =g0.W.heap[b]?∧g.G b) (hf:∀r,r<M→g.U r∧g.β r=g0.β r):
 ∀i,Den g (q1t E i) (t.getD i undef):=fun i=>by
 let gm:Gh:=⟨g0.W,g0.G,g0.β,fun r=>g0.U r∧r<M⟩
 have h1:=Den.map (f:=id) (g:=g0) (g':=gm) rfl rfl _ _ (fun r hr hu=>⟨⟨hu,u3x hE i r hr⟩,rfl⟩) (henv i)
 rw[y3e]at h1
 exact Den.mono (g:=gm) (g':=g) ⟨fun b hb=>(hk b hb).1,fun b hb=>(hk b hb).2,fun r hr=>hf r hr.2⟩ _ _ h1
theorem j2n (hM:M≤rn) (hrn:rn<1000) (hmM:k.w0.m≤M) (hE:(E.all fun x=>x.2.refs.all fun r=>Nat.blt r M)=true) (hpn:(ps.toList.all fun p=>Nat.blt p k.n)=true)
 (hel:∀i,i<N→(el i).length=ps.size) (hfx:∀i x,I i x→q3g k.w0.m M rn (HL i x)=true)
 (hA:∀Wr Or βr Gr l r0 i x,i<N→I i x→Tri (kR k M Wr Or βr Gr l) (y1r E ps.toList (el i)) ((rn,.other l (.loop r0))::HL i x) assign (RA (kR k M Wr Or βr Gr l) (EA i x) ((rn,.other l (.loop r0))::HA i x)))
 (hB:∀Wr Or βr Gr l r1 i x,i<N→I i x→Tri (kR k M Wr Or βr Gr l) (EA i x) ((rn,.other l (.loop r1))::HA i x) body (RQ k M rn I HL C i l r1 (kR k M Wr Or βr Gr l)))
 {g0:Gh} (h0:k.w0.w.heap.size≤g0.W.heap.size) {a:Act} (ha:a.tmps.size=k.n) (henv:∀i,Den g0 (q1t E i) (a.tmps.getD i undef))
 {gf:Nat} {lb:Array Value} {xs:Nat→Array Value} (hseq:u1p k.P gf lb (KRG g0.G) N xs g0.W) (hxs:∀i,i<N→q0e ⟨g0.W,g0.G,fun _=>undef,fun _=>False⟩ (el i) (xs i).toList)
 (S:Nat→Prop) {W1:World} {l:Nat} {fn D:Nat} (rec:LoopState→Option Code→Loop) (hrec:rec=fun st pe=>{state:=st,pending:=pe,fn,tmps:=a.tmps,params:=ps,assign,body,defers:=D})
 (hl1:W1.heap[l]? =some (.loop (rec .ready none))) (hJ0:∃x g,I 0 x∧StJ k g0 M (HL 0 x) (fun b=>b=l∨S b) g W1) (hSl:¬S l):
 Calls k.P gf (#[.func (.yield l) #[] #[]]++lb) W1 fun e W'=>(∃v,e=.returned v)∧
  ((∃x g,I N x∧StJ k g0 M (HL N x) (fun b=>b=l∨S b) g W'∧W'.heap[l]? =some (.loop (rec .ready none))∧∀b,S b→W'.heap[b]? =W1.heap[b]?)∨
   (∃e' c H1 g,y7p e'=some c∧C e' H1∧q3g k.w0.m M rn H1=true∧StJ k g0 M H1 (fun b=>b=l∨S b) g W'∧W'.heap[l]? =some (.loop (rec .done (some c)))∧∀b,S b→W'.heap[b]? =W1.heap[b]?)):=by
 let Zl:(Nat→Prop)→Nat→Prop:=fun Z b=>Z b∨b=l∨S b
 let Rest:(Nat→Prop)→World→Loop→Prop:=fun Z W r=>W.heap[l]? =some (.loop r)∧¬Z l∧∀b,S b→¬Z b∧W.heap[b]? =W1.heap[b]?
 have hlt1:l<W1.heap.size:=(Array.getElem?_eq_some_iff.1 hl1).1
 have hSW:∀b,S b→b<W1.heap.size:=fun b hb=>by obtain⟨x,g,_,hst⟩:=hJ0;exact(hst.far b (.inr hb)).1.2
 have rest_step:∀Z W W' r,W1.heap.size≤W.heap.size→Rest Z W r→Kp Z W W'→Rest (grew Z W W') W' r:=by
  rintro Z W W' r hsz ⟨h1,h2,h3⟩ hk
  refine⟨(hk.block l (by omega) h2).trans h1,?_,fun b hb=>⟨?_,(hk.block b (by have:=hSW b hb;omega) (h3 b hb).1).trans (h3 b hb).2⟩⟩
  ·rintro(h|h)
   ·exact h2 h
   ·omega
  ·rintro(h|h)
   ·exact(h3 b hb).1 h
   ·have:=hSW b hb;omega
 have st_step:∀(H:Hp) Z W W' g,StJ k g0 M H (Zl Z) g W→Kp Z W W'→∃g',StJ k g0 M H (Zl (grew Z W W')) g' W':=by
  intro H Z W W' g hst hk
  obtain⟨g',hst'⟩:=hst.step (W':=W') h0 ⟨hk.os,hk.tape,hk.output,hk.size,fun b hb hno=>hk.block b hb fun hz=>hno (.inl hz)⟩
  refine⟨g',hst'.imp fun b hb=>?_⟩
  rcases hb with(hb|hb)|hb
  ·exact .inl (.inl hb)
  ·exact .inr hb
  ·exact .inl (.inr hb)
 refine Calls.mono (hseq l (fun i Z W=>(∃x g,I i x∧StJ k g0 M (HL i x) (Zl Z) g W)∧W1.heap.size≤W.heap.size∧Rest Z W (rec .ready none))
  (fun _ Z W=>∃e' c H1 g,y7p e'=some c∧C e' H1∧q3g k.w0.m M rn H1=true∧StJ k g0 M H1 (Zl Z) g W∧W1.heap.size≤W.heap.size∧Rest Z W (rec .done (some c))) (fun _=>False) W1 ?_ ?_ ?_ ?_ ?_) ?_
 ·intro b hb
  obtain⟨x,g,_,hst⟩:=hJ0
  exact(hst.keep b hb).1
 ·rintro i Z W W' ⟨⟨x,g,hI,hst⟩,hsz,hr⟩ hk
  obtain⟨g',hst'⟩:=st_step _ Z W W' g hst hk
  exact⟨⟨x,g',hI,hst'⟩,Qc0 hsz hk.size,rest_step Z W W' _ hsz hr hk⟩
 ·rintro i Z W W' ⟨e',c,H1,g,hc,hC,hf,hst,hsz,hr⟩ hk
  obtain⟨g',hst'⟩:=st_step _ Z W W' g hst hk
  exact⟨e',c,H1,g',hc,hC,hf,hst',Qc0 hsz hk.size,rest_step Z W W' _ hsz hr hk⟩
 ·rintro i Z W hi ⟨⟨x,g,hI,hst⟩,hsz,hl,hzl,hSb⟩
  have hlen:(xs i).size=ps.size:=by have:=(hxs i hi).length;rw[hel i hi]at this;simpa using this
  have hy:=run_yield (P:=k.P) (args:=xs i) hl (by rw[hrec];exact hlen)
  rw[hrec]at hy
  have hfi:=hfx i x hI
  obtain⟨hle,hm1,hU1⟩:=hst.enter (l:=l) (.inr (.inl rfl)) hl hfi hM hrn hmM
  obtain⟨hg1,hk1,hf1⟩:(g1 g rn l).W=W∧(∀b,g0.G b→(g1 g rn l).W.heap[b]? =g0.W.heap[b]?∧(g1 g rn l).G b)∧∀r,r<M→(g1 g rn l).U r∧(g1 g rn l).β r=g0.β r:=
   ⟨hst.w,fun b hb=>by obtain⟨q1,q2⟩:=hst.keep b hb;exact⟨by show g.W.heap[b]? =_;rw[hst.w];exact q1,q2⟩,fun r hr=>⟨.inl (hst.fix r hr).1,(if_neg (by omega)).trans (hst.fix r hr).2⟩⟩
  have hdx:q0e (g1 g rn l) (el i) (xs i).toList:=q0e.mono (g:=⟨g0.W,g0.G,fun _=>undef,fun _=>False⟩) (g':=g1 g rn l) ⟨fun b hb=>(hk1 b hb).1,fun b hb=>(hk1 b hb).2,fun r hr=>False.elim hr⟩ _ _ (hxs i hi)
  obtain⟨hset,hsize⟩:=j9z (g:=g1 g rn l) (n:=k.n) (E:=E) (t:=a.tmps) hpn ha (by simpa using hel i hi) hdx (x5t hE henv hk1 hf1)
  refine⟨fn,_,assign,body,hy,roundIn_of_wpIn (F:=FR none) trivial ?_⟩
  have hs0:Sim (kR k M W (Or1 g (HL i x) rn l) (β1 g rn l) g.G l) (y1r E ps.toList (el i)) ((rn,.other l (.loop (rec .ready none)))::HL i x) {tmps:=(ps.zip (xs i)).foldl (fun tmps (x:Nat×Value)=>tmps.setIfInBounds x.1 x.2) a.tmps,defers:=[]} W:=
   ⟨by rw[y1b];exact hsize,rfl,g1 g rn l,hg1,hU1,hm1,fun j=>by rw[y1b];exact hset j⟩
  refine y6c (wpIn_mono (hA W _ _ _ l _ i x hi hI _ _ hs0) ?_)
  rintro e a2 W2 hq
  cases e with
  |normal=>
   have hq:Sim _ _ _ a2 W2:=hq
   refine⟨_,run_beginRound hq.other (by rw[hrec]),?_⟩
   refine y6c (wpIn_mono (hB W _ _ _ l _ i x hi hI _ _ (hq.put _)) ?_)
   rintro e a3 W3 hp
   cases e with
   |normal=>
    obtain⟨y,hIy,hS3⟩:=hp
    obtain⟨⟨g4,hst4⟩,hkr,hzs,hw3,hs3⟩:=hst.back (l:=l) (.inr (.inl rfl)) hfi hM hmM h0 (.loop (rec .ready none)) hS3 (hfx _ y hIy)
    have hend:=run_endRound (P:=k.P) none hw3
    rw[hrec]at hend hst4 hkr hzs
    refine⟨_,_,hend,.inl ⟨rfl,⟨y,g4,hIy,hst4⟩,by simpa using Qc0 hsz hs3,?_,hzl,fun b hb=>⟨(hSb b hb).1,(hzs b (.inr (.inr hb)) (fun e=>hSl (e▸hb))).trans (hSb b hb).2⟩⟩,hkr,fun b hb=>hzs b (.inl hb) (fun e=>hzl (e▸hb)),by simpa using hs3⟩
    rw[hrec]
    exact World.putObj_heap_same (Array.getElem?_eq_some_iff.1 hw3).1
   |ret=>
    obtain⟨H1,hC,hf1',hS3⟩:=hp
    obtain⟨⟨g4,hst4⟩,hkr,hzs,hw3,hs3⟩:=hst.back (l:=l) (.inr (.inl rfl)) hfi hM hmM h0 (.loop (rec .done (some .ret))) hS3 hf1'
    have hend:=run_endRound (P:=k.P) (some .ret) hw3
    rw[hrec]at hend hst4 hkr hzs
    refine⟨_,_,hend,.inr ⟨rfl,.ret,.ret,H1,g4,rfl,hC,hf1',hst4,by simpa using Qc0 hsz hs3,?_,hzl,fun b hb=>⟨(hSb b hb).1,(hzs b (.inr (.inr hb)) (fun e=>hSl (e▸hb))).trans (hSb b hb).2⟩⟩,hkr,fun b hb=>hzs b (.inl hb) (fun e=>hzl (e▸hb)),by simpa using hs3⟩
    rw[hrec]
    exact World.putObj_heap_same (Array.getElem?_eq_some_iff.1 hw3).1
   |exit id=>
    obtain⟨H1,hC,hf1',hS3⟩:=hp
    obtain⟨⟨g4,hst4⟩,hkr,hzs,hw3,hs3⟩:=hst.back (l:=l) (.inr (.inl rfl)) hfi hM hmM h0 (.loop (rec .done (some (.exit id)))) hS3 hf1'
    have hend:=run_endRound (P:=k.P) (some (.exit id)) hw3
    rw[hrec]at hend hst4 hkr hzs
    refine⟨_,_,hend,.inr ⟨rfl,.exit id,.exit id,H1,g4,rfl,hC,hf1',hst4,by simpa using Qc0 hsz hs3,?_,hzl,fun b hb=>⟨(hSb b hb).1,(hzs b (.inr (.inr hb)) (fun e=>hSl (e▸hb))).trans (hSb b hb).2⟩⟩,hkr,fun b hb=>hzs b (.inl hb) (fun e=>hzl (e▸hb)),by simpa using hs3⟩
    rw[hrec]
    exact World.putObj_heap_same (Array.getElem?_eq_some_iff.1 hw3).1
   |_=>exact hp.elim
  |_=>exact(hq:False).elim
 ·obtain⟨x,g,hI,hst⟩:=hJ0
  exact⟨⟨x,g,hI,hst.imp fun b hb=>hb.elim False.elim id⟩,Qb8 _,hl1,id,fun b _=>⟨id,rfl⟩⟩
 ·rintro e W' ⟨hv,h⟩
  refine⟨hv,?_⟩
  rcases h with⟨Z,⟨x,g,hI,hst⟩,_,h1,_,h3⟩|⟨i,Z,e',c,H1,g,hc,hC,hf,hst,_,h1,_,h3⟩
  ·exact .inl ⟨x,g,hI,hst.imp fun b hb=>.inr hb,h1,fun b hb=>(h3 b hb).2⟩
  ·exact .inr ⟨e',c,H1,g,hc,hC,hf,hst.imp fun b hb=>.inr hb,h1,fun b hb=>(h3 b hb).2⟩
end
theorem MOk.add {w0:Base} {G0:Nat→Prop} {g:Gh} {Hf:Nat→Option q0d} {rn b:Nat} {o0:Obj} (h:MOk w0 G0 g Hf) (hn:Hf rn=none) (hU:¬g.U rn) (hb:¬g.G b) (hfar:∀r o,Hf r=some o→q1k (g.β r)≠some b)
 (hw:g.W.heap[b]? =some o0) (hmine:w0.mine b) (hm:w0.m≤rn):g.le (g1 g rn b)∧MOk w0 G0 (g1 g rn b) (upd Hf rn (some (.other b o0))):=by
 have hb1:∀r,r≠rn→β1 g rn b r=g.β r:=fun r hr=>if_neg hr
 have hle:g.le (g1 g rn b):=⟨fun _ _=>rfl,fun _ hb=>hb,fun r hr=>⟨.inl hr,hb1 r (fun e=>hU (e▸hr))⟩⟩
 have hlk:∀r o,upd Hf rn (some (.other b o0)) r=some o→(r=rn∧o=.other b o0)∨(r≠rn∧Hf r=some o):=by
  intro r o hr
  unfold upd at hr
  by_cases e:r=rn
  ·subst e;rw[q6x]at hr;cases hr;exact .inl ⟨rfl,rfl⟩
  ·rw[q4x e]at hr;exact .inr ⟨e,hr⟩
 have hβrn:β1 g rn b rn=.pointer (some ⟨b,0,none⟩):=if_pos rfl
 refine⟨hle,⟨fun r o hr=>?_,fun r r' o o' k hr hr' hk hk'=>?_,fun r o k hr hk=>?_,h.gb,h.bel,fun r hr=>⟨.inl (h.anc.1 r hr).1,(hb1 r (by omega)).trans (h.anc.1 r hr).2⟩,h.anc.2.up hle⟩⟩
 ·rcases hlk r o hr with⟨rfl,rfl⟩|⟨hne,hr⟩
  ·exact⟨.inr rfl,hβrn,hw⟩
  ·obtain⟨hu,ho⟩:=h.ok r o hr
   refine⟨.inl hu,?_⟩
   show z2a _ (β1 g rn b r) o
   rw[hb1 r hne]
   exact ho.up hle fun _ _=>rfl
 ·change q1k (β1 g rn b _)=_ at hk hk'
  rcases hlk r o hr with⟨e1,rfl⟩|⟨hne,hrx⟩<;>rcases hlk r' o' hr' with⟨e2,rfl⟩|⟨hne',hrx'⟩
  ·exact e1.trans e2.symm
  ·rw[e1,hβrn]at hk
   rw[hb1 _ hne']at hk'
   cases hk
   exact absurd hk' (hfar r' o' hrx')
  ·rw[e2,hβrn]at hk'
   rw[hb1 _ hne]at hk
   cases hk'
   exact absurd hk (hfar r o hrx)
  ·rw[hb1 _ hne]at hk
   rw[hb1 _ hne']at hk'
   exact h.sep r r' o o' k hrx hrx' hk hk'
 ·change q1k (β1 g rn b _)=_ at hk
  rcases hlk r o hr with⟨e1,rfl⟩|⟨hne,hr⟩
  ·rw[e1,hβrn]at hk
   cases hk
   exact⟨hb,hmine⟩
  ·rw[hb1 _ hne]at hk
   exact h.own r o k hr hk
def Ct.mark (k:Ct) (D:Nat):Ct:={k with w0:={k.w0 with ds:=mkD D::k.w0.ds}}
theorem StJ.leave {k:Ct} {g0 g:Gh} {M:Nat} {H:Hp} {Z:Nat→Prop} {W:World} {l:Nat} (h:StJ k g0 M H Z g W) (h0:k.w0.w.heap.size≤g0.W.heap.size) (hl:Z l) (o':Obj):∃g',StJ k g0 M H Z g' (W.putObj l o'):=by
 obtain⟨g',h'⟩:=h.step (W':=W.putObj l o') h0 ⟨rfl,rfl,rfl,by simp,fun b _ hno=>World.putObj_heap_other fun e=>hno (e▸hl)⟩
 exact⟨g',h'.imp fun b hb=>.inl hb⟩
theorem StJ.bdm {k:Ct} {g0 g:Gh} {M rn:Nat} {H:Hp} {Z:Nat→Prop} {W:World} (h:StJ k g0 M H Z g W) (hfx:q3g k.w0.m M rn H=true):∀r,g.U r→r<1000∧(r<k.w0.m∨(look r H).isSome=true):=fun r hr=>by
 obtain⟨p1,p2⟩:=h.bd r hr
 refine⟨p1,?_⟩
 rcases p2 with p2|p2
 ·rcases Qi7 r k.w0.m with h1|h1
  ·exact .inl h1
  ·exact .inr ((q9l hfx).1 r h1 p2)
 ·exact .inr p2
theorem StJ.sim {k:Ct} {g0 g:Gh} {E:Env} {M rn:Nat} {H:Hp} {Z:Nat→Prop} {W:World} {a:Act} (h:StJ k g0 M H Z g W) (hfx:q3g k.w0.m M rn H=true) (hE:(E.all fun x=>x.2.refs.all fun r=>Nat.blt r M)=true) (ha:a.tmps.size=k.n) (hd:a.defers=k.w0.ds)
 (henv:∀i,Den g0 (q1t E i) (a.tmps.getD i undef)):Sim k E H a W:=
 ⟨ha,hd,g,h.w,h.bdm hfx,h.ok,x5t hE henv (fun b hb=>⟨by rw[h.w];exact(h.keep b hb).1,(h.keep b hb).2⟩) h.fix⟩
theorem StJ.simD {k:Ct} {g0 g:Gh} {E:Env} {M rn dn D:Nat} {H:Hp} {Z:Nat→Prop} {W:World} {a:Act} (h:StJ k g0 M H Z g W) (hfx:q3g k.w0.m M rn H=true) (hE:(E.all fun x=>x.2.refs.all fun r=>Nat.blt r M)=true) (ha:a.tmps.size=k.n) (hd:a.defers=k.w0.ds)
 (henv:∀i,Den g0 (q1t E i) (a.tmps.getD i undef)) (h0:k.w0.w.heap.size≤g0.W.heap.size) (hmM:k.w0.m≤M) (hM:M≤dn) (hdn:dn<1000) (hlk:look dn H=none) (hD:Z D) (hw:W.heap[D]? =some dfr):
 Sim (k.mark D) E ((dn,.other D dfr)::H) {a with defers:=mkD D::a.defers} W:=by
 have hf:=h.far D hD
 have hbd:=h.bdm hfx
 obtain⟨hle,hm⟩:=MOk.add (rn:=dn) (b:=D) (o0:=dfr) h.ok hlk (fun hu=>by
  rcases(h.bd dn hu).2 with q|q
  ·omega
  ·rw[hlk]at q;cases q) hf.2.1 hf.2.2 (by rw[h.w];exact hw) (.inl (Qc0 h0 hf.1.1)) (by omega)
 have e:upd (fun r=>look r H) dn (some (.other D dfr))=(q5i E ((dn,.other D dfr)::H)).heap:=by
  funext x
  show upd (fun r=>look r H) dn (some (.other D dfr)) x=look x ((dn,.other D dfr)::H)
  rw[q1a]
  unfold upd
  by_cases e:x=dn
  ·subst e;simp[q6x]
  ·simp[q4x e,e]
 rw[e]at hm
 refine⟨ha,by show mkD D::a.defers=mkD D::k.w0.ds;rw[hd],g1 g dn D,h.w,fun r hr=>?_,⟨hm.ok,hm.sep,hm.own,hm.gb,hm.bel,hm.anc⟩,fun i=>Den.mono hle _ _ (x5t hE henv (fun b hb=>⟨by rw[h.w];exact(h.keep b hb).1,(h.keep b hb).2⟩) h.fix i)⟩
 rcases hr with hr|rfl
 ·obtain⟨p1,p2⟩:=hbd r hr
  refine⟨p1,p2.imp id fun q=>?_⟩
  rw[q1a]
  split
  ·rfl
  ·exact q
 ·exact⟨hdn,.inr (by rw[q1a,if_pos rfl];rfl)⟩
theorem j4n {r:Option Nat} {n:Nat}:(FR r).depth.isSome=true→1≤n:=fun h=>by cases h
def j7e (m n M rn dn:Nat) (ps:List Nat) (E:Env):Bool:=
 Nat.ble m M&&(Nat.ble M rn&&(Nat.blt rn 1000&&(Nat.ble M dn&&(Nat.blt dn 1000&&((E.all fun x=>x.2.refs.all fun r=>Nat.blt r M)&&ps.all fun p=>Nat.blt p n)))))
theorem j1y {m n M rn dn:Nat} {ps:List Nat} {E:Env} (h:j7e m n M rn dn ps E=true):m≤M∧M≤rn∧rn<1000∧M≤dn∧dn<1000∧(E.all fun x=>x.2.refs.all fun r=>Nat.blt r M)=true∧(ps.all fun p=>Nat.blt p n)=true:=by
 simp only[j7e,Qa2]at h
 obtain⟨h1,h2,h3,h4,h5,h6,h7⟩:=h
 exact⟨Qc3 h1,Qc3 h2,Qc3 h3,Qc3 h4,Qc3 h5,h6,h7⟩
section
variable {X:Type} {k:Ct} {E:Env} {H:Hp} {Q:Exit→Act→World→Prop} {gop:Operand} {ps:Array Nat} {assign body:Code} {gf:Nat} {caps:List AV} {σ:ItF} {p:Prop} {N:Nat} {el:Nat→List AV}
theorem z9t (hrnd:k.rnd=none) (hs:z2s k.P gf σ) (hg:(q5i E H).ev gop=.clo gf caps) (hσ:σ caps=some (p,N,el)) (hpure:z3g caps=true) (hp:p) (M rn dn:Nat) (hok:j7e k.w0.m k.n M rn dn ps.toList E=true)
 (I:Nat→X→Prop) (HL:Nat→X→Hp) (EA:Nat→X→Env) (HA:Nat→X→Hp) (x0:X) (hI0:I 0 x0) (hH:H=HL 0 x0) (hel:∀i,i<N→(el i).length=ps.size) (hfx:∀i x,I i x→q3g k.w0.m M rn (HL i x)=true) (hdn:∀x,I N x→look dn (HL N x)=none)
 (hA:∀Wr Or βr Gr l r0 i x,i<N→I i x→Tri (kR k M Wr Or βr Gr l) (y1r E ps.toList (el i)) ((rn,.other l (.loop r0))::HL i x) assign (RA (kR k M Wr Or βr Gr l) (EA i x) ((rn,.other l (.loop r0))::HA i x)))
 (hB:∀Wr Or βr Gr l r1 i x,i<N→I i x→Tri (kR k M Wr Or βr Gr l) (EA i x) ((rn,.other l (.loop r1))::HA i x) body (RQ k M rn I HL (fun e H1=>look dn H1=none∧∀D,Fin (k.mark D) E ((dn,.other D dfr)::H1) Q e) i l r1 (kR k M Wr Or βr Gr l)))
 (hdone:∀D x,I N x→Fin (k.mark D) E ((dn,.other D dfr)::HL N x) Q .normal) (hgf:Nat.blt gf bndK=true:=by kernel_rfl):Tri k E H (.rangeFunc gop ps assign body) Q:=by
 intro a W hsim
 obtain⟨hmM,hM,hrn,hMd,hdn1,hE,hpn⟩:=j1y hok
 obtain⟨ha,hdf,g,rfl,hU,hm,henv⟩:=hsim
 have h0:k.w0.w.heap.size≤g.W.heap.size:=hm.bel.size
 have hgv:=y0x hm.anc.2 henv gop
 rw[hg]at hgv
 simp only[Den]at hgv
 obtain⟨vs,hgop,hdv⟩:=hgv
 rw[z1u hgf]at hgop
 obtain⟨xs,hxs,hseq⟩:=hs.2 g.W g.G caps vs p N el (fun b hb=>(hm.gb b hb).1) (fun kk ys hk=>hm.anc.2 kk ys hk) hσ hp (q0e.pure (g:=g) (g':=⟨g.W,g.G,fun _=>undef,fun _=>False⟩) rfl rfl _ _ hpure hdv)
 show Code.wpIn (FR k.rnd) 3 k.P _ Q a g.W
 rw[hrnd]
 refine wpIn_rangeFunc ?_
 intro fn _
 obtain⟨rec,hrec⟩:∃rec:LoopState→Option Code→Loop,rec=fun st pe=>{state:=st,pending:=pe,fn,tmps:=a.tmps,params:=ps,assign,body,defers:=g.W.heap.size}:=⟨_,rfl⟩
 obtain⟨W1,hW1⟩:∃W1,(g.W.alloc (.deferred (some []))).alloc (.loop (rec .ready none))=W1:=⟨_,rfl⟩
 have hL1:W1.heap[g.W.heap.size+1]? =some (.loop (rec .ready none)):=by
  rw[←hW1];have:=World.alloc_heap_new (g.W.alloc (.deferred (some []))) (.loop (rec .ready none));rwa [World.size_alloc]at this
 have hK1:W1.heap[g.W.heap.size]? =some dfr:=by
  rw[←hW1];exact(Below.heap_alloc _ _ _ (by simp)).trans (World.alloc_heap_new g.W _)
 have hk1:Kp (fun _=>False) g.W W1:=by rw[←hW1];exact((Kp.refl _ _).alloc _).alloc _
 have hst0:StJ k g M (HL 0 x0) (fun _=>False) g g.W:=by
  refine⟨rfl,Qb8 _,fun b hb=>⟨rfl,hb⟩,fun r hr=>⟨?_,rfl⟩,fun r hr=>?_,?_,fun b hb=>hb.elim⟩
  ·rcases Qi7 r k.w0.m with h1|h1
   ·exact(hm.anc.1 r h1).1
   ·have:=(q9l (hfx 0 x0 hI0)).1 r h1 hr
    cases hl:look r (HL 0 x0)with
    |none=>rw[hl]at this;cases this
    |some o=>exact(hm.ok r o (by show look r H=some o;rw[hH];exact hl)).1
  ·obtain⟨q1,q2⟩:=hU r hr
   exact⟨q1,q2.imp (fun h=>by omega) (fun h=>by rw[←hH];exact h)⟩
  ·rw[←hH];exact hm
 obtain⟨gs,hst1⟩:=hst0.step h0 hk1
 have hsz1:W1.heap.size=g.W.heap.size+2:=by rw[←hW1];simp
 have hcore:=j2n (k:=k) (E:=E) (ps:=ps) I HL EA HA (fun e H1=>look dn H1=none∧∀D,Fin (k.mark D) E ((dn,.other D dfr)::H1) Q e) hM hrn hmM hE hpn hel hfx hA hB h0 ha henv hseq hxs (fun b=>b=g.W.heap.size) rec hrec hL1
  ⟨x0,gs,hI0,hst1.imp fun b hb=>.inr (by rcases hb with rfl|rfl<;>omega)⟩ (by omega)
 refine⟨g.W.heap.size+1,[mkD g.W.heap.size],W1,{target:=.fn (.func gf) vs.toArray,args:= #[.func (.yield (g.W.heap.size+1)) #[] #[]]},W1,gf,
  #[.func (.yield (g.W.heap.size + 1)) #[] #[]] ++ vs.toArray, W1, ?_, ?_, fun _ _ => trivial, ?_, j4n, ?_⟩
 ·rw[←hW1,hrec];exact run_enterLoop_outer _ _ _ _ _
 ·simp only[resolve,hgop]
  simp[go_sem]
 ·simp[invoke,go_sem,hs.1]
 ·refine q2p.2 (Calls.mono hcore ?_)
  rintro e W' ⟨⟨v,rfl⟩,h⟩
  have hds:∀W4:World,({a with defers:=[mkD g.W.heap.size]++a.defers}:Act)={a with defers:=mkD g.W.heap.size::a.defers}:=fun _=>rfl
  rcases h with⟨x,g',hI,hst,hl,hS⟩|⟨e',c,H1,g',hc,⟨hlk,hfin⟩,hf1,hst,hl,hS⟩
  ·have hend:=run_endLoop (P:=k.P) hl (by rw[hrec];simp)
   obtain⟨g2,hst2⟩:=hst.leave h0 (l:=g.W.heap.size+1) (.inl rfl) (.loop {rec .ready none with state:=.exhausted})
   rw[hrec]at hend
   refine⟨none,_,hend,hdone g.W.heap.size x hI _ _ ?_⟩
   rw[hrec]at hst2
   exact hst2.simD (hfx N x hI) hE ha hdf henv h0 hmM hMd hdn1 (hdn x hI) (.inr rfl) ((World.putObj_heap_other (by omega)).trans ((hS _ rfl).trans hK1))
  ·have hend:=run_endLoop (P:=k.P) hl (by rw[hrec];simp)
   obtain⟨g2,hst2⟩:=hst.leave h0 (l:=g.W.heap.size+1) (.inl rfl) (.loop {rec .done (some c)with state:=.exhausted})
   rw[hrec]at hend hst2
   have hs4:=hst2.simD (E:=E) (a:=a) hf1 hE ha hdf henv h0 hmM hMd hdn1 hlk (D:=g.W.heap.size) (.inr rfl) ((World.putObj_heap_other (by omega)).trans ((hS _ rfl).trans hK1))
   refine⟨some c,_,hend,?_⟩
   have hq:=hfin g.W.heap.size _ _ hs4
   cases e' with
   |ret=>cases hc;exact wpIn_ret hq
   |exit id=>cases hc;exact wpIn_exit hq
   |_=>cases hc
theorem x4u (n0 l0:Nat) (r00:Loop) (hrnd:k.rnd=some l0) (hl0:look n0 H=some (.other l0 (.loop r00))) (hs:z2s k.P gf σ) (hg:(q5i E H).ev gop=.clo gf caps) (hσ:σ caps=some (p,N,el)) (hpure:z3g caps=true) (hp:p) (M rn:Nat) (hok:j7e k.w0.m k.n M rn rn ps.toList E=true)
 (I:Nat→X→Prop) (HL:Nat→X→Hp) (EA:Nat→X→Env) (HA:Nat→X→Hp) (x0:X) (hI0:I 0 x0) (hH:H=HL 0 x0) (hel:∀i,i<N→(el i).length=ps.size) (hfx:∀i x,I i x→q3g k.w0.m M rn (HL i x)=true)
 (hA:∀Wr Or βr Gr l r0 i x,i<N→I i x→Tri (kR k M Wr Or βr Gr l) (y1r E ps.toList (el i)) ((rn,.other l (.loop r0))::HL i x) assign (RA (kR k M Wr Or βr Gr l) (EA i x) ((rn,.other l (.loop r0))::HA i x)))
 (hB:∀Wr Or βr Gr l r1 i x,i<N→I i x→Tri (kR k M Wr Or βr Gr l) (EA i x) ((rn,.other l (.loop r1))::HA i x) body (RQ k M rn I HL (fun e H1=>Fin k E H1 Q e) i l r1 (kR k M Wr Or βr Gr l)))
 (hdone:∀x,I N x→Fin k E (HL N x) Q .normal) (hgf:Nat.blt gf bndK=true:=by kernel_rfl):Tri k E H (.rangeFunc gop ps assign body) Q:=by
 intro a W hsim
 obtain⟨hmM,hM,hrn,_,_,hE,hpn⟩:=j1y hok
 obtain⟨ha,hdf,g,rfl,hU,hm,henv⟩:=hsim
 have h0:k.w0.w.heap.size≤g.W.heap.size:=hm.bel.size
 have hgv:=y0x hm.anc.2 henv gop
 rw[hg]at hgv
 simp only[Den]at hgv
 obtain⟨vs,hgop,hdv⟩:=hgv
 rw[z1u hgf]at hgop
 obtain⟨xs,hxs,hseq⟩:=hs.2 g.W g.G caps vs p N el (fun b hb=>(hm.gb b hb).1) (fun kk ys hk=>hm.anc.2 kk ys hk) hσ hp (q0e.pure (g:=g) (g':=⟨g.W,g.G,fun _=>undef,fun _=>False⟩) rfl rfl _ _ hpure hdv)
 have hl00:g.W.heap[l0]? =some (.loop r00):=(hm.ok n0 _ hl0).2.2
 show Code.wpIn (FR k.rnd) 3 k.P _ Q a g.W
 rw[hrnd]
 refine wpIn_rangeFunc ?_
 intro fn _
 obtain⟨rec,hrec⟩:∃rec:LoopState→Option Code→Loop,rec=fun st pe=>{state:=st,pending:=pe,fn,tmps:=a.tmps,params:=ps,assign,body,defers:=r00.defers}:=⟨_,rfl⟩
 obtain⟨W1,hW1⟩:∃W1,g.W.alloc (.loop (rec .ready none))=W1:=⟨_,rfl⟩
 have hL1:W1.heap[g.W.heap.size]? =some (.loop (rec .ready none)):=by rw[←hW1];exact World.alloc_heap_new g.W _
 have hk1:Kp (fun _=>False) g.W W1:=by rw[←hW1];exact(Kp.refl _ _).alloc _
 have hst0:StJ k g M (HL 0 x0) (fun _=>False) g g.W:=by
  refine⟨rfl,Qb8 _,fun b hb=>⟨rfl,hb⟩,fun r hr=>⟨?_,rfl⟩,fun r hr=>?_,?_,fun b hb=>hb.elim⟩
  ·rcases Qi7 r k.w0.m with h1|h1
   ·exact(hm.anc.1 r h1).1
   ·have:=(q9l (hfx 0 x0 hI0)).1 r h1 hr
    cases hl:look r (HL 0 x0)with
    |none=>rw[hl]at this;cases this
    |some o=>exact(hm.ok r o (by show look r H=some o;rw[hH];exact hl)).1
  ·obtain⟨q1,q2⟩:=hU r hr
   exact⟨q1,q2.imp (fun h=>by omega) (fun h=>by rw[←hH];exact h)⟩
  ·rw[←hH];exact hm
 obtain⟨gs,hst1⟩:=hst0.step h0 hk1
 have hsz1:W1.heap.size=g.W.heap.size+1:=by rw[←hW1];simp
 have hcore:=j2n (k:=k) (E:=E) (ps:=ps) I HL EA HA (fun e H1=>Fin k E H1 Q e) hM hrn hmM hE hpn hel hfx hA hB h0 ha henv hseq hxs (fun _=>False) rec hrec hL1
  ⟨x0,gs,hI0,hst1.imp fun b hb=>.inr (hb.elim (fun e=>by omega) False.elim)⟩ id
 refine⟨g.W.heap.size,[],W1,{target:=.fn (.func gf) vs.toArray,args:= #[.func (.yield g.W.heap.size) #[] #[]]},W1,gf,
  #[.func (.yield g.W.heap.size) #[] #[]] ++ vs.toArray, W1, ?_, ?_, fun _ _ => trivial, ?_, j4n, ?_⟩
 ·rw[←hW1,hrec];exact run_enterLoop_inner hl00 _ _ _ _ _
 ·simp only[resolve,hgop]
  simp[go_sem]
 ·simp[invoke,go_sem,hs.1]
 ·refine q2p.2 (Calls.mono hcore ?_)
  rintro e W' ⟨⟨v,rfl⟩,h⟩
  rcases h with⟨x,g',hI,hst,hl,_⟩|⟨e',c,H1,g',hc,hfin,hf1,hst,hl,_⟩
  ·have hend:=run_endLoop (P:=k.P) hl (by rw[hrec];simp)
   obtain⟨g2,hst2⟩:=hst.leave h0 (l:=g.W.heap.size) (.inl rfl) (.loop {rec .ready none with state:=.exhausted})
   rw[hrec]at hend hst2
   exact⟨none,_,hend,hdone x hI _ _ (hst2.sim (hfx N x hI) hE ha hdf henv)⟩
  ·have hend:=run_endLoop (P:=k.P) hl (by rw[hrec];simp)
   obtain⟨g2,hst2⟩:=hst.leave h0 (l:=g.W.heap.size) (.inl rfl) (.loop {rec .done (some c)with state:=.exhausted})
   rw[hrec]at hend hst2
   have hq:=hfin _ _ (hst2.sim (E:=E) (a:=a) hf1 hE ha hdf henv)
   refine⟨some c,_,hend,?_⟩
   rw[←hrnd]
   cases e' with
   |ret=>cases hc;exact wpIn_ret hq
   |exit id=>cases hc;exact wpIn_exit hq
   |_=>cases hc
end
theorem j4j (E:Env):x4k E []:=rfl
theorem q9z {kr:Ct} {E EA:Env} {H HA:Hp} (hE:x4k E EA) (hH:H=HA):Fin kr E H (RA kr EA HA) .normal:=fun a W hs=>by
 show Sim kr EA HA a W
 rw[←hH]
 exact hs.sub hE
section
variable {X:Type} {k kr:Ct} {M rn i l:Nat} {I:Nat→X→Prop} {HL:Nat→X→Hp} {C:Exit→Hp→Prop} {r1:Loop} {E:Env} {H:Hp}
theorem q5l (y:X) (hI:I (i+1) y) (hH:H=(rn,.other l (.loop r1))::HL (i+1) y):Fin kr E H (RQ k M rn I HL C i l r1 kr) .normal:=fun a W hs=>
 ⟨y,hI,by rw[←hH];exact hs.sub (j4j E)⟩
theorem y1t {id:Nat} (H1:Hp) (hH:H=(rn,.other l (.loop r1))::H1) (hf:q3g k.w0.m M rn H1=true) (hC:C (.exit id) H1):Fin kr E H (RQ k M rn I HL C i l r1 kr) (.exit id):=fun a W hs=>
 ⟨H1,hC,hf,by rw[←hH];exact hs.sub (j4j E)⟩
theorem k8b (H1:Hp) (hH:H=(rn,.other l (.loop r1))::H1) (hf:q3g k.w0.m M rn H1=true) (hC:C .ret H1):Fin kr E H (RQ k M rn I HL C i l r1 kr) .ret:=fun a W hs=>
 ⟨H1,hC,hf,by rw[←hH];exact hs.sub (j4j E)⟩
end
theorem MOk.base {w0:Base} {d:List Deferred} {G0:Nat→Prop} {g:Gh} {H:Nat→Option q0d}:MOk {w0 with ds:=d} G0 g H↔MOk w0 G0 g H:=
 ⟨fun h=>⟨h.ok,h.sep,h.own,h.gb,h.bel,h.anc⟩,fun h=>⟨h.ok,h.sep,h.own,h.gb,h.bel,h.anc⟩⟩
theorem x7o (w0:Base) (d:List Deferred) (G0:Nat→Prop) (r:AV) (outs:List (Option q0d)):Post {w0 with ds:=d} G0 r outs=Post w0 G0 r outs:=by
 funext e W'
 unfold Post
 simp only[MOk.base]
theorem q9m {k:Ct} {E:Env} {H:Hp} {fn:Func} {avs:List AV} {r:AV} {outs:List (Option q0d)} {w0:Base} (d:List Deferred) (hw:k.w0={w0 with ds:=d}) (ms:List (Nat×Nat)) (hds:k.w0.ds=ms.map fun x=>mkD x.2) (hnd:nodup (ms.map (·.1))=true) (hmk:z9x H ms) (hcx:q1c k.P k.cx)
 (h:q7x k.cx E (z0g (ms.map (·.1)) H) fn.results.toList=some avs) (hr:y2c avs=r) (mask:List Bool) (ho:q8v (z0g (ms.map (·.1)) H) 0 mask=outs):Fin k E H (bodyPostM (FR none) 3 k.P fn (Post w0 k.G0 r outs)) .ret:=by
 rw[←x7o w0 d,←hw]
 exact k1w ms hds hnd hmk hcx h hr mask ho
end Go.Proofs.YteikjpbbhopkaaaGreatDoor.En
namespace Go.Proofs.YteikjpbbhopkaaaGreatDoor.En
open Go Go.RowKit
abbrev Tg (k:Ct) (S:Env×Hp) (c:Code) (Q:Exit→Act→World→Prop):Prop:=Tri k S.1 S.2 c Q
abbrev Fg (k:Ct) (S:Env×Hp) (Q:Exit→Act→World→Prop) (e:Exit):Prop:=Fin k S.1 S.2 Q e
def rgK (ops:Array Oper) (dk:List Nat) (E:Env):List Nat:=(E.map (·.1)).filter fun i=> !q5q i dk&&ops.toList.all fun o=>match o.dst with|some d=> !Nat.beq d i|none=>true
def rgN (ρ:List (Nat×RM)) (dn:List Nat) (H:Hp):List Nat:=(H.map (·.1)).filter fun r=> !q5q r dn&& !q5q r (ρ.map (·.1))
section
variable (d:Bool) (k:Ct) (ops:Array Oper) (wt:List Nat) (ρ:List (Nat×RM)) (ky dk dn:List Nat) (S:Env×Hp)
def rgO:Option (List Prop×Env×Hp):=u6o d k.cx k.w0.m ops wt k.n ρ ky (rgK ops dk S.1) (rgN ρ dn S.2) S.1 S.2
def rgS:Env×Hp:=match rgO d k ops wt ρ ky dk dn S with
 |some x=>(x.2.1++z5m (rgK ops dk S.1) S.1,x.2.2++z0w (rgN ρ dn S.2) S.2)
 |none=>([],[])
def rgP:Option (List Prop):=match rgO d k ops wt ρ ky dk dn S with|some x=>some x.1|none=>none
end
theorem u1d {d:Bool} {k:Ct} {ops:Array Oper} {wt:List Nat} {ρ:List (Nat×RM)} {ky dk dn:List Nat} {S:Env×Hp} {ps:List Prop} (h:rgP d k ops wt ρ ky dk dn S=some ps):
 ∃En Hn,u6o d k.cx k.w0.m ops wt k.n ρ ky (rgK ops dk S.1) (rgN ρ dn S.2) S.1 S.2=some (ps,En,Hn)∧rgS d k ops wt ρ ky dk dn S=(En++z5m (rgK ops dk S.1) S.1,Hn++z0w (rgN ρ dn S.2) S.2):=by
 unfold rgP at h
 unfold rgS
 cases hc:rgO d k ops wt ρ ky dk dn S with
 |none=>rw[hc]at h;cases h
 |some x=>
  obtain⟨ps',En,Hn⟩:=x
  rw[hc]at h
  cases h
  exact⟨En,Hn,hc,rfl⟩
section
variable {k:Ct} {S:Env×Hp} {Q:Exit→Act→World→Prop} {ops:Array Oper} {id:Nat} {y c:Code}
theorem Tq (hcx:q1c k.P k.cx) (ρ:List (Nat×RM)) (ky dk dn:List Nat) (ps:List Prop) (hp:q3n ps) (hf:Fg k (rgS false k ops [] ρ ky dk dn S) Q .normal) (h:rgP false k ops [] ρ ky dk dn S=some ps:=by kernel_rfl):Tg k S (.region id ops false) Q:=by
 obtain⟨En,Hn,h1,h2⟩:=u1d h
 rw[h2]at hf
 exact k4z hcx ρ ky _ _ ps En Hn h1 hp hf
theorem Tz (hcx:q1c k.P k.cx) (ρ:List (Nat×RM)) (ky dk dn:List Nat) (hf:Fg k (rgS false k ops [] ρ ky dk dn S) Q .normal) (h:rgP false k ops [] ρ ky dk dn S=some []:=by kernel_rfl):Tg k S (.region id ops false) Q:=Tq hcx ρ ky dk dn [] trivial hf h
theorem Sq (hcx:q1c k.P k.cx) (ρ:List (Nat×RM)) (ky dk dn:List Nat) (ps:List Prop) (hp:q3n ps) (hf:Tg k (rgS false k ops [] ρ ky dk dn S) y Q) (h:rgP false k ops [] ρ ky dk dn S=some ps:=by kernel_rfl):Tg k S (.seq (.region id ops false) y) Q:=y3w (Tq hcx ρ ky dk dn ps hp (x0m hf) h)
theorem Sz (hcx:q1c k.P k.cx) (ρ:List (Nat×RM)) (ky dk dn:List Nat) (hf:Tg k (rgS false k ops [] ρ ky dk dn S) y Q) (h:rgP false k ops [] ρ ky dk dn S=some []:=by kernel_rfl):Tg k S (.seq (.region id ops false) y) Q:=Sq hcx ρ ky dk dn [] trivial hf h
theorem Td (hcx:q1c k.P k.cx) (hmx:k.P.follows .mixedOrders=true) (wt:List Nat) (ρ:List (Nat×RM)) (ky dk dn:List Nat) (ps:List Prop) (hp:q3n ps) (hf:Fg k (rgS true k ops wt ρ ky dk dn S) Q .normal) (h:rgP true k ops wt ρ ky dk dn S=some ps:=by kernel_rfl):Tg k S (.region id ops true) Q:=by
 obtain⟨En,Hn,h1,h2⟩:=u1d h
 rw[h2]at hf
 exact x8l wt hcx hmx ρ ky _ _ ps En Hn h1 hp hf
theorem Sd (hcx:q1c k.P k.cx) (hmx:k.P.follows .mixedOrders=true) (wt:List Nat) (ρ:List (Nat×RM)) (ky dk dn:List Nat) (ps:List Prop) (hp:q3n ps) (hf:Tg k (rgS true k ops wt ρ ky dk dn S) y Q) (h:rgP true k ops wt ρ ky dk dn S=some ps:=by kernel_rfl):Tg k S (.seq (.region id ops true) y) Q:=y3w (Td hcx hmx wt ρ ky dk dn ps hp (x0m hf) h)
def k0q (k:Ct) (cx:Cx):Ct:=⟨k.P,cx,k.w0,k.G0,k.n,k.rnd⟩
theorem Zt {E:Env} {H:Hp} (h:Tg k (E,H) c Q):Tri k E H c Q:=h
theorem Zf {E:Env} {H:Hp} {e:Exit} (h:Fg k (E,H) Q e):Fin k E H Q e:=h
theorem Zs {x:Code} (h:Tg k S x (Exit.then (Wp k.rnd k.P y Q) Q)):Tg k S (.seq x y) Q:=y3w h
theorem Zb (h:Tg k S c (Exit.inBlock id Q)):Tg k S (.block id c) Q:=k3u h
theorem Zc (h:Tg k S c (Exit.noGoto Q)):Tg k S (.scope c) Q:=x8y h
theorem Zl {l:Nat} (h:Fg k S Q .normal):Tg k S (.label l) Q:=k4b h
theorem Zk (h:Fg k S Q .normal):Tg k S .skip Q:=k5y h
theorem Ze (h:Fg k S Q (.exit id)):Tg k S (.exit id) Q:=k6r h
theorem Zr (h:Fg k S Q .ret):Tg k S .ret Q:=u2q h
theorem Ft {Q1 Q2:Exit→Act→World→Prop} (h:Tg k S y Q1):Fg k S (Exit.then (Wp k.rnd k.P y Q1) Q2) .normal:=h
theorem Fe {N:Act→World→Prop} (h:Fg k S Q (.exit id)):Fg k S (Exit.then N Q) (.exit id):=h
theorem Fr {N:Act→World→Prop} (h:Fg k S Q .ret):Fg k S (Exit.then N Q) .ret:=h
theorem Fb (h:Fg k S Q .normal):Fg k S (Exit.inBlock id Q) .normal:=h
theorem Fs (h:Fg k S Q .normal):Fg k S (Exit.inBlock id Q) (.exit id):=j0g h
theorem Fo {j:Nat} (h:Fg k S Q (.exit j)) (hne:Nat.beq j id=false:=by rfl):Fg k S (Exit.inBlock id Q) (.exit j):=z6k hne h
theorem Fk (h:Fg k S Q .ret):Fg k S (Exit.inBlock id Q) .ret:=h
theorem Fx (h:Fg k S Q .ret):Fg k S (Exit.noGoto Q) .ret:=h
theorem Zi {o:Operand} {x:Code} {b:Bool} (ht:b=true→Tg k S x Q) (hf:b=false→Tg k S y Q) (hc:(q5i S.1 S.2).ev o=.im (.val (.bool b)):=by kernel_rfl):Tg k S (.cond o x y) Q:=z6e hc ht hf
theorem Zj {o:Operand} {x:Code} {p:Prop} [Decidable p] (ht:p→Tg k S x Q) (hf:¬p→Tg k S y Q) (hc:(q5i S.1 S.2).ev o=.im (.val (.bool (decide p))):=by kernel_rfl):Tg k S (.cond o x y) Q:=z6e hc (fun h=>ht (of_decide_eq_true h)) (fun h=>hf (of_decide_eq_false h))
theorem Zu {o:Operand} {x:Code} {a b:Int} (ht:a=b→Tg k S x Q) (hf:a≠b→Tg k S y Q) (hc:(q5i S.1 S.2).ev o=.im (.val (.bool (a==b))):=by kernel_rfl):Tg k S (.cond o x y) Q:=z6e hc (fun h=>ht (eq_of_beq h)) (fun h=>hf (neB h))
theorem Zx {o:Operand} {x:Code} {a b:Int} (ht:a≠b→Tg k S x Q) (hf:a=b→Tg k S y Q) (hc:(q5i S.1 S.2).ev o=.im (.val (.bool (a !=b))):=by kernel_rfl):Tg k S (.cond o x y) Q:=z6e hc (fun h=>ht (bne_iff_ne.1 h)) (fun h=>hf (u6l h))
theorem Zy (E:Env) (H:Hp) (hf:Tri k E H c Q) (h:S=(E,H):=by kernel_rfl):Tg k S c Q:=by subst h;exact hf
theorem Fq (E:Env) (H:Hp) {e:Exit} (hf:Fin k E H Q e) (h:S=(E,H):=by kernel_rfl):Fg k S Q e:=by subst h;exact hf
def rnS (k:Ct) (ρ:List (Nat×RM)) (ky:List Nat) (S:Env×Hp):Env×Hp:=(q4d ρ (q5i S.1 S.2) ky,q1y ρ (fun r=>look r S.2) ρ)
def rnB (k:Ct) (ρ:List (Nat×RM)) (S:Env×Hp):Bool:=z0j k.w0.m ρ&&q8a ρ (fun r=>look r S.2)
theorem u1c {ρ:List (Nat×RM)} {ky:List Nat} (h:rnB k ρ S=true):(bif z0j k.w0.m ρ&&q8a ρ (fun r=>look r S.2)then some (q4d ρ (q5i S.1 S.2) ky,q1y ρ (fun r=>look r S.2) ρ)else none)=some ((rnS k ρ ky S).1,(rnS k ρ ky S).2):=by
 unfold rnB at h
 rw[h];rfl
theorem Zn (ρ:List (Nat×RM)) (ky:List Nat) (hf:Tg k (rnS k ρ ky S) c Q) (h:rnB k ρ S=true:=by kernel_rfl):Tg k S c Q:=z9b ρ ky (u1c h) hf
theorem Fn {e:Exit} (ρ:List (Nat×RM)) (ky:List Nat) (hf:Fg k (rnS k ρ ky S) Q e) (h:rnB k ρ S=true:=by kernel_rfl):Fg k S Q e:=j6c ρ ky (u1c h) hf
theorem Fp (i:Nat) (l:LD) {e:Exit} (h:Fg k (u8k i l S.1,S.2) Q e) (hl:Nat.beq l.len 0=true:=by kernel_rfl):Fg k S Q e:=u3h i l hl rfl h
def rwB (k:Ct) (r:Nat) (l:LD) (S:Env×Hp):Bool:=Nat.beq l.len 0&&(Nat.blt 0 l.st&&((Nat.blt r 1000&&Nat.ble k.w0.m r)&& !(look r S.2).isSome))
theorem y8e {r:Nat} {l:LD} (h:rwB k r l S=true):Nat.beq l.len 0=true∧Nat.blt 0 l.st=true∧(Nat.blt r 1000&&Nat.ble k.w0.m r)=true∧(look r S.2).isSome=false:=by
 unfold rwB at h
 cases h1:Nat.beq l.len 0<;>cases h2:Nat.blt 0 l.st<;>cases h3:(Nat.blt r 1000&&Nat.ble k.w0.m r)<;>cases h4:(look r S.2).isSome<;>simp_all
theorem Zw (i r e:Nat) (l:LD) (h:Tg k (u0i i r S.1,(r,.row e l)::S.2) c Q) (hb:rwB k r l S=true:=by kernel_rfl):Tg k S c Q:=by
 obtain⟨h1,h2,h3,h4⟩:=y8e hb
 exact u5i i r e l h1 h2 h3 h4 rfl h
theorem Fw (i r e:Nat) (l:LD) {x:Exit} (h:Fg k (u0i i r S.1,(r,.row e l)::S.2) Q x) (hb:rwB k r l S=true:=by kernel_rfl):Fg k S Q x:=by
 obtain⟨h1,h2,h3,h4⟩:=y8e hb
 exact u3z i r e l h1 h2 h3 h4 rfl h
theorem Zv (b j r e:Nat) (l:LD) (h:Tg k (S.1,(r,.row e l)::u1b b j r S.2) c Q) (hb:rwB k r l S=true:=by kernel_rfl):Tg k S c Q:=by
 obtain⟨h1,h2,h3,h4⟩:=y8e hb
 exact k7q b j r e l h1 h2 h3 h4 rfl h
theorem Fv (b j r e:Nat) (l:LD) {x:Exit} (h:Fg k (S.1,(r,.row e l)::u1b b j r S.2) Q x) (hb:rwB k r l S=true:=by kernel_rfl):Fg k S Q x:=by
 obtain⟨h1,h2,h3,h4⟩:=y8e hb
 exact k8j b j r e l h1 h2 h3 h4 rfl h
end
def v0h (i:Nat) (y:AV) (E:Env):Env:=E.map fun z=>bif Nat.beq z.1 i then(z.1,y)else z
theorem y8y {i j:Nat} {y:AV}:∀{E:Env},look j (v0h i y E)=(look j E).map fun z=>bif Nat.beq j i then y else z
 |[]=>rfl
 |(a,z)::E=>by
  show look j ((bif Nat.beq a i then(a,y)else(a,z))::v0h i y E)=_
  have ih:=y8y (i:=i) (j:=j) (y:=y) (E:=E)
  by_cases h:a=j
  ·subst h
   have e:Nat.beq a a=true:=Nat.beq_refl a
   cases hb:Nat.beq a i<;>simp[look,hb,e]
  ·have e:Nat.beq a j=false:=by
    cases hb:Nat.beq a j with
    |false=>rfl
    |true=>exact absurd (Qb0 hb) h
   cases hb:Nat.beq a i<;>simp[look,hb,e,ih]
theorem Eb {E E':Env} (h:E'.map (fun x=>q1t E x.1)=E'.map (·.2):=by kernel_rfl):x4k E E':=h
theorem Ex {E E':Env} (i:Nat) {x y:AV} (hxy:x=y) (h:x4k (v0h i y E) E') (Hx:q1t E i=x:=by kernel_rfl):x4k E E':=by
 subst hxy
 unfold x4k at h⊢
 rw[←h]
 refine Qn0 fun z hz=>?_
 unfold q1t at Hx⊢
 rw[y8y]
 cases hl:look z.1 E with
 |none=>rfl
 |some v=>
  simp only[Qg1]
  cases hb:Nat.beq z.1 i with
  |false=>rfl
  |true=>
   have e:=Qb0 hb
   rw[e]at hl
   rw[hl]at Hx
   exact Hx
theorem Hb {H H':Hp} (h:H=H':=by kernel_rfl):H=H':=h
def u7j (r:Nat) (o:q0d):Hp→Hp
 |[]=>[]
 |z::H=>bif Nat.beq z.1 r then(z.1,o)::H else z::u7j r o H
theorem x9o {r:Nat} {o:q0d}:∀{H:Hp},look r H=some o→u7j r o H=H
 |[],_=>rfl
 |(a,z)::H,h=>by
  unfold look at h
  unfold u7j
  simp only
  cases hb:Nat.beq a r with
  |true=>rw[hb]at h;cases h;rfl
  |false=>rw[hb]at h;show(a,z)::u7j r o H=_;rw[x9o (H:=H) h]
theorem Hx {H H':Hp} (r:Nat) {o o':q0d} (ho:o=o') (h:u7j r o' H=H') (hl:look r H=some o:=by kernel_rfl):H=H':=by
 subst ho
 rw[←h,x9o hl]
section
variable {k:Ct} {S:Env×Hp} {Q:Exit→Act→World→Prop}
theorem Lp {X:Type} (I:X→Prop) (SL:X→Env×Hp) (μ:X→Nat) (x0:X) {c:Code} (h0:I x0) (hE:x4k S.1 (SL x0).1) (hH:S.2=(SL x0).2)
 (round:∀x,I x→Tg k (SL x) c (Exit.then (k7r k I (fun x=>(SL x).1) (fun x=>(SL x).2) μ x) Q)):Tg k S (.loop c) Q:=k6q I (fun x=>(SL x).1) (fun x=>(SL x).2) μ x0 h0 hE hH round
theorem Lr {X:Type} {I:X→Prop} {SL:X→Env×Hp} {μ:X→Nat} {x:X} (y:X) (hI:I y) (hμ:μ y<μ x) (hE:x4k S.1 (SL y).1) (hH:S.2=(SL y).2):Fg k S (Exit.then (k7r k I (fun x=>(SL x).1) (fun x=>(SL x).2) μ x) Q) .normal:=x6f y hI hμ hE hH
theorem Rv {fn:Func} {x r:AV} {o outs:List (Option q0d)} (hcx:q1c k.P k.cx) (hr:x=r) (mask:List Bool) (ho:o=outs) (hds:k.w0.ds=[]:=by rfl)
 (h:(match q7x k.cx S.1 (z0g [] S.2) fn.results.toList with|some l=>some (y2c l)|none=>none)=some x:=by kernel_rfl) (h2:q8v (z0g [] S.2) 0 mask=o:=by kernel_rfl):Fg k S (bodyPostM (FR none) 3 k.P fn (Post k.w0 k.G0 r outs)) .ret:=by
 cases hl:q7x k.cx S.1 (z0g [] S.2) fn.results.toList with
 |none=>rw[hl]at h;cases h
 |some l=>
  rw[hl]at h
  cases h
  exact k1w [] hds rfl trivial hcx hl hr mask (h2.trans ho)
theorem Ru {fn:Func} {r:AV} {outs:List (Option q0d)} (hcx:q1c k.P k.cx) (mask:List Bool) (hds:k.w0.ds=[]:=by rfl)
 (h:(match q7x k.cx S.1 (z0g [] S.2) fn.results.toList with|some l=>some (y2c l)|none=>none)=some r:=by kernel_rfl) (h2:q8v (z0g [] S.2) 0 mask=outs:=by kernel_rfl):Fg k S (bodyPostM (FR none) 3 k.P fn (Post k.w0 k.G0 r outs)) .ret:=Rv hcx rfl mask rfl hds h h2
theorem Rw {fn:Func} {x r:AV} {o outs:List (Option q0d)} (hcx:q1c k.P k.cx) (hr:x=r) (mask:List Bool) (ho:o=outs) (hds:k.w0.ds=[]:=by rfl)
 (h:(match q7x k.cx S.1 (z0g [] S.2) fn.results.toList with|some l=>some (y2c l)|none=>none)=some x:=by kernel_rfl) (h2:q8v (z0g [] S.2) 0 mask=o:=by kernel_rfl):Fg k S (bodyPostM (FR none) 3 k.P fn (Post k.w0 k.G0 r outs)) .normal:=Rv hcx hr mask ho hds h h2
end
theorem Sw {P:Program} {cx:Cx} {f:Nat} (fn:Func) {c:Code} {σ:CtF} (hf:P.funcs[f]? =some fn)
 (h:∀wW wO wβ G0 args os p r outs,σ args os=some (p,r,outs)→p→(Nat.ble args.length fn.ntmps&&Nat.ble os.length 1000)=true∧Tg ⟨P,cx,⟨wW,wO,os.length,wβ,[]⟩,G0,fn.ntmps,none⟩ (q2v 0 args,q2v 0 os) c (bodyPostM (FR none) 3 P fn (Post ⟨wW,wO,os.length,wβ,[]⟩ G0 r outs)))
 (hname : (fn.name == "runtime.NumGoroutine") = false := by kernel_rfl) (hb : fn.body = some c := by rfl) : q0c P f σ :=
 y8q hf hname hb fun w0 G0 args os p r outs hσ hp hm hd=>by
  obtain⟨wW,wO,wm,wβ,wd⟩:=w0
  replace hm:wm=os.length:=hm
  replace hd:wd=[]:=hd
  subst hm hd
  exact h wW wO wβ G0 args os p r outs hσ hp
end Go.Proofs.YteikjpbbhopkaaaGreatDoor.En
namespace Go.Proofs.YteikjpbbhopkaaaGreatDoor.En
open Go Go.RowKit
def g0 (W:World) (G:Nat→Prop):Gh:=⟨W,G,fun _=>undef,fun _=>False⟩
theorem x7d {α:Type} {enc:α→Value} {W:World} {G:Nat→Prop} {A:Option Addr} {xs:List α} {l:LD} {c:Nat} (h:Rd enc G W A xs) (hm:xs.length≤maxLen) (hl:l.len=xs.length) (hst:l.st=1) (hcap:xs.length≤c)
 (hc:∀i (hi:i<xs.length),l.cell i 0=.val (enc xs[i])):Rep W G (.ls l) (.slice A xs.length c):=by
 rcases Qj7 xs.length with h0|h0
 ·rw[h0];exact .nil l A c (by omega)
 ·obtain⟨b,off,rfl,hb,hcell⟩:=h h0
  rw[←hl]
  refine .ls l b off c (fun i _=>if hi:i<xs.length then enc xs[i]else undef) (by omega) (by omega) hb (fun i j hi hj=>?_) (fun i j hi hj=>?_)
  ·have hj0:j=0:=by omega
   subst hj0
   rw[hst,Qf6,Qd9,dif_pos (by omega:i<xs.length)]
   exact hcell i (by omega)
  ·have hj0:j=0:=by omega
   subst hj0
   rw[dif_pos (by omega:i<xs.length),hc i (by omega)]
   exact .val _
theorem q0c.calls {P:Program} {f:Nat} {σ:CtF} (h:q0c P f σ) {W:World} (hgl:j2i (g0 W (· <W.heap.size))) {args:List AV} {vs:List Value} {p:Prop} {r:AV} (hσ:σ args []=some (p,r,[])) (hp:p) (hd:q0e (g0 W (· <W.heap.size)) args vs):
 Calls P f vs.toArray W (fun e w'=>∃u,e=.returned u∧Below W.heap.size W w'∧∃g':Gh,g'.W=w'∧(∀b,g'.G b→b<w'.heap.size)∧Den g' r u):=by
 have hnl:∀b,¬q5p (g0 W (· <W.heap.size)) [] b:=by rintro b ⟨i,hi,_⟩;simp at hi
 refine Calls.mono (h.2 (g0 W (· <W.heap.size)) args [] vs p r [] hσ hp ⟨fun r o h=>by simp[q8e]at h,fun r r' o o' b h=>by simp[q8e]at h,fun r o b h=>by simp[q8e]at h,fun b hb=>⟨hb,.inl hb⟩,Kp.refl _ _,fun i hi=>by simp at hi,hgl⟩ (fun r hr=>False.elim hr) hd) fun e w' he=>?_
 obtain⟨u,g',rfl,rfl,_,hm,hdu⟩:=he
 exact⟨u,rfl,⟨hm.bel.os,hm.bel.tape,hm.bel.output,hm.bel.size,fun k hk=>hm.bel.block k hk (hnl k)⟩,g',rfl,fun b hb=>(hm.gb b hb).1,hdu⟩
theorem k6x {P:Program} {f:Nat} {σ:CtF} {W:World} (hgl:j2i (g0 W (· <W.heap.size))) (h:q0c P f σ) {args:List AV} {vs:List Value} {p:Prop} (hσ:σ args []=some (p,.bool true,[])) (hp:p) (hd:q0e (g0 W (· <W.heap.size)) args vs):
 Calls P f vs.toArray W (fun e w'=>e=.returned (.bool true)∧Below W.heap.size W w'):=by
 refine Calls.mono (h.calls hgl hσ hp hd) fun e w' he=>?_
 obtain⟨u,rfl,hb,g',_,_,hd⟩:=he
 rw[q0b hd]
 exact⟨rfl,hb⟩
end Go.Proofs.YteikjpbbhopkaaaGreatDoor.En
namespace Go.Proofs.YteikjpbbhopkaaaGreatDoor.En
open Go Go.RowKit
def z3d:LD→List Value
 |.ints xs=>xs.map I64
 |.bools xs=>xs.map Value.bool
 |_=>[]
def q4f:LD→Bool
 |.ints _=>true
 |.bools _=>true
 |_=>false
theorem q5e {l:LD} (h:q4f l=true):(z3d l).length=l.len∧l.st=1:=by
 cases l<;>simp[q4f]at h<;>simp[z3d,LD.len,LD.st]
theorem z7d {l:LD} (h:q4f l=true) {W:World} {G:Nat→Prop} {i:Nat} (hi:i<l.len):Rep W G (l.cell i 0) ((z3d l).getD i undef):=by
 cases l<;>simp[q4f]at h
 ·rename_i xs
  simp only[LD.len]at hi
  have:(z3d (.ints xs)).getD i undef=I64 (xs.getD i 0):=by simp[z3d,List.getD,Qa0 hi]
  rw[this];exact .val _
 ·rename_i xs
  simp only[LD.len]at hi
  have:(z3d (.bools xs)).getD i undef=.bool (xs.getD i false):=by simp[z3d,List.getD,Qa0 hi]
  rw[this];exact .val _
theorem y4u {l:LD} (h:q4f l=true) {W:World} {G:Nat→Prop} {xs:List Value} (hl:xs.length=l.len) (hc:∀i,i<l.len→Rep W G (l.cell i 0) (xs.getD i undef)):xs=z3d l:=by
 have hn:=(q5e h).1
 apply Qh6 (by rw[hl,hn])
 intro i h1 h2
 have hi:i<l.len:=by omega
 have hr:=hc i hi
 have e1:xs.getD i undef=xs[i]:=by simp[List.getD,Qa0 h1]
 rw[e1]at hr
 cases l<;>simp[q4f]at h
 ·rename_i ys
  have hr':xs[i]=I64 (ys.getD i 0):=q0b (g:=⟨W,G,fun _=>undef,fun _=>False⟩) (by simp only[Den];exact hr)
  simp only[LD.len]at hi
  rw[hr'];simp[z3d,List.getD,Qa0 hi]
 ·rename_i ys
  have hr':xs[i]=.bool (ys.getD i false):=q0b (g:=⟨W,G,fun _=>undef,fun _=>False⟩) (by simp only[Den];exact hr)
  simp only[LD.len]at hi
  rw[hr'];simp[z3d,List.getD,Qa0 hi]
theorem sound_row {P:Program} {f e:Nat} {σ:CtF} (hen:∀args W,(callFunc f args).run P W=.ok (.enter f args) W)
 (h:∀args os p r outs,σ args os=some (p,r,outs)→∃avs l l',args=.row 0::avs∧os=[.row e l]∧r=.row 1∧outs=[none,some (.row e l')]∧z3g avs=true∧q4f l=true∧q4f l'=true∧
  (p→l'.len≤maxLen∧∀(W:World) (G:Nat→Prop) (v:Value) (vs:List Value),(∀b,G b→b<W.heap.size)→(∀b,v.ownBlock=some b→¬G b)→j2i (g0 W G)→Own W e v (z3d l)→l.len≤maxLen→q0e (g0 W G) avs vs→
   Calls P f (v::vs).toArray W fun e' W'=>∃v',e'=.returned v'∧Own W' e v' (z3d l')∧W.grownBy W' v.ownBlock∧∀b,v'.ownBlock=some b→v.ownBlock=some b∨b=W.heap.size)):q0c P f σ:=by
 refine⟨hen,fun g args os vs p r outs hσ hp hm hU hd=>?_⟩
 obtain⟨avs,l,l',rfl,rfl,rfl,rfl,hpu,hf,hf',hcall⟩:=h args os p r outs hσ
 obtain⟨hmx',hcall⟩:=hcall hp
 simp only[q0e]at hd
 obtain⟨v,vs',rfl,hd0,hd1⟩:=hd
 simp only[Den]at hd0
 obtain⟨hu0,hv,_⟩:=hd0
 obtain⟨_,xs,ho,hmx,hc⟩:=hm.ok 0 (.row e l) rfl
 obtain⟨hn,hst⟩:=q5e hf
 rw[hst]at ho
 obtain⟨ho1,hxl⟩:=ho.one
 have hxs:xs=z3d l:=y4u hf hxl fun i hi=>by have:=hc i 0 hi (by omega);rwa [hst,Qf6,Qd9]at this
 rw[←hv,hxs]at ho1
 have hblk:q1k v=v.ownBlock:=q7g ho1
 have hnU:¬g.U 1:=fun hu=>by have:=hU 1 hu;simp at this
 refine Calls.mono (hcall g.W g.G v vs' (fun b hb=>(hm.gb b hb).1) (fun b hb=>(hm.own 0 _ b rfl (by rw[←hv,hblk];exact hb)).1) (fun kk ys hk=>hm.anc.2 kk ys hk) ho1 hmx (q0e.pure (g:=g) (g':=g0 g.W g.G) rfl rfl _ _ hpu hd1)) fun e' W' he=>?_
 obtain⟨v',rfl,ho',hg,hb'⟩:=he
 obtain⟨hn',hst'⟩:=q5e hf'
 have hgood:=good_row (nm:=1) (e:=e) (l:=l') (v:=v') (xs:=z3d l') (W':=W') (ob:=v.ownBlock) (H':=q3s [none,some (.row e l')]) hm hnU hg (fun b hb=>hm.own 0 _ b rfl (by rw[←hv,hblk];exact hb)) (fun x o hx=>?_)
  (by rw[hst'];exact .of_one ho' hn') hmx' (fun i j hi hj=>by
   rw[hst']at hj⊢
   have:j=0:=by omega
   subst this
   rw[Qf6,Qd9]
   exact z7d hf' hi) (fun b hb=>by rw[q7g ho']at hb;exact hb' b hb)
 ·obtain⟨g',h1,h2,_,h4,h5⟩:=hgood
  exact⟨v',g',rfl,h1,h2,h4,h5⟩
 ·match x,hx with
  |1,hx=>left;simp[q3s]at hx;exact⟨rfl,hx.symm⟩
  |0,hx=>simp[q3s]at hx
  |n+2,hx=>simp[q3s]at hx
theorem y4c {P:Program} {f e:Nat} {σ:CtF} (hen:∀args W,(callFunc f args).run P W=.ok (.enter f args) W)
 (h:∀args os p r outs,σ args os=some (p,r,outs)→∃avs l l' R,args=.row 0::avs∧os=[.row e l]∧r=.tup []∧outs=[some (.row e l')]∧z3g avs=true∧q4f l=true∧q4f l'=true∧R=Value.tuple #[]∧
  (p→l'.len≤maxLen∧l'.len=l.len∧∀(W:World) (G:Nat→Prop) (v:Value) (vs:List Value),(∀b,G b→b<W.heap.size)→(∀b,v.ownBlock=some b→¬G b)→j2i (g0 W G)→Own W e v (z3d l)→l.len≤maxLen→q0e (g0 W G) avs vs→
   Calls P f (v::vs).toArray W fun e' W'=>e'=.returned R∧Own W' e v (z3d l')∧Kp (fun b=>v.ownBlock=some b) W W')):q0c P f σ:=by
 refine⟨hen,fun g args os vs p r outs hσ hp hm hU hd=>?_⟩
 obtain⟨avs,l,l',R,rfl,rfl,rfl,rfl,hpu,hf,hf',rfl,hcall⟩:=h args os p r outs hσ
 obtain⟨hmx',hll,hcall⟩:=hcall hp
 simp only[q0e]at hd
 obtain⟨v,vs',rfl,hd0,hd1⟩:=hd
 simp only[Den]at hd0
 obtain⟨hu0,hv,_⟩:=hd0
 obtain⟨_,xs,ho,hmx,hc⟩:=hm.ok 0 (.row e l) rfl
 obtain⟨hn,hst⟩:=q5e hf
 rw[hst]at ho
 obtain⟨ho1,hxl⟩:=ho.one
 have hxs:xs=z3d l:=y4u hf hxl fun i hi=>by have:=hc i 0 hi (by omega);rwa [hst,Qf6,Qd9]at this
 rw[←hv,hxs]at ho1
 have hblk:q1k v=v.ownBlock:=q7g ho1
 have hnG:∀b,v.ownBlock=some b→¬g.G b:=fun b hb=>(hm.own 0 _ b rfl (by rw[←hv,hblk];exact hb)).1
 refine Calls.mono (hcall g.W g.G v vs' (fun b hb=>(hm.gb b hb).1) hnG (fun kk ys hk=>hm.anc.2 kk ys hk) ho1 hmx (q0e.pure (g:=g) (g':=g0 g.W g.G) rfl rfl _ _ hpu hd1)) fun e' W' he=>?_
 obtain⟨rfl,ho',hk⟩:=he
 obtain⟨hn',hst'⟩:=q5e hf'
 let g':Gh:=⟨W',g.G,g.β,g.U⟩
 have hle:g.le g':=⟨fun b hb=>hk.block b (hm.gb b hb).1 (fun h=>hnG b h hb),fun _ hb=>hb,fun _ hr=>⟨hr,rfl⟩⟩
 have hlk:∀x o,q3s [some (.row e l')] x=some o→x=0∧o=.row e l':=by
  intro x o hx
  match x,hx with
  |0,hx=>simp[q3s]at hx;exact⟨rfl,hx.symm⟩
  |n+1,hx=>simp[q3s]at hx
 refine⟨_,g',rfl,rfl,hle,⟨fun x o hx=>?_,fun x x' o o' b hx hx' _ _=>(hlk x o hx).1.trans (hlk x' o' hx').1.symm,fun x o b hx hb=>?_,fun b hb=>⟨Qc2 (hm.gb b hb).1 hk.size,(hm.gb b hb).2⟩,⟨hk.os,hk.tape,hk.output,hk.size,fun b hb hno=>hk.block b hb fun h=>hno ⟨0,by simp,by rw[←hv,hblk];exact h⟩⟩,hm.anc_up hle⟩,?_⟩
 ·obtain⟨rfl,rfl⟩:=hlk x o hx
  refine⟨hu0,?_⟩
  show z2a g' (g.β 0) (.row e l')
  rw[←hv]
  exact⟨z3d l',by rw[hst'];exact .of_one ho' hn',hmx',fun i j hi hj=>by
   rw[hst']at hj⊢
   have:j=0:=by omega
   subst this
   rw[Qf6,Qd9]
   exact z7d hf' hi⟩
 ·obtain⟨rfl,rfl⟩:=hlk x o hx
  exact hm.own 0 _ b rfl hb
 ·simp only[Den];exact⟨[],rfl,by simp[q0e]⟩
theorem z1v {P:Program} {f e:Nat} {σ:CtF} (hen:∀args W,(callFunc f args).run P W=.ok (.enter f args) W)
 (h:∀args os p r outs,σ args os=some (p,r,outs)→∃l',os=[]∧r=.row 0∧outs=[some (.row e l')]∧q4f l'=true∧
  (p→l'.len≤maxLen∧∀(W:World) (G:Nat→Prop) (vs:List Value),(∀b,G b→b<W.heap.size)→j2i (g0 W G)→q0e (g0 W G) args vs→
   Calls P f vs.toArray W fun e' W'=>∃v',e'=.returned v'∧Own W' e v' (z3d l')∧Below W.heap.size W W'∧∀b,v'.ownBlock=some b→W.heap.size≤b)):q0c P f σ:=by
 refine⟨hen,fun g args os vs p r outs hσ hp hm hU hd=>?_⟩
 obtain⟨l',rfl,rfl,rfl,hf',hcall⟩:=h args os p r outs hσ
 obtain⟨hmx',hcall⟩:=hcall hp
 have hU':∀r,¬g.U r:=fun r hr=>absurd (hU r hr) (by simp)
 have hd':q0e (g0 g.W g.G) args vs:=by
  have:=q0e.map (f:=id) (g:=g) (g':=g0 g.W g.G) rfl rfl args vs (fun r _ hu=>absurd hu (hU' r)) hd
  rwa [q5w]at this
 refine Calls.mono (hcall g.W g.G vs (fun b hb=>(hm.gb b hb).1) (fun kk ys hk=>hm.anc.2 kk ys hk) hd') fun e' W' he=>?_
 obtain⟨v',rfl,ho',hb,hnew⟩:=he
 obtain⟨hn',hst'⟩:=q5e hf'
 let g':Gh:=⟨W',g.G,fun r=>if r=0 then v' else g.β r,fun r=>g.U r∨r=0⟩
 have hle:g.le g':=⟨fun b hg=>hb.block b (hm.gb b hg).1,fun _ hb=>hb,fun r hr=>absurd hr (hU' r)⟩
 have hlk:∀x o,q3s [some (.row e l')] x=some o→x=0∧o=.row e l':=by
  intro x o hx
  match x,hx with
  |0,hx=>simp[q3s]at hx;exact⟨rfl,hx.symm⟩
  |n+1,hx=>simp[q3s]at hx
 have hb0:g'.β 0=v':=by show(if(0:Nat)=0 then v' else g.β 0)=v';rw[if_pos rfl]
 obtain⟨A,cap,hform,_⟩:=ho'.form
 refine⟨v',g',rfl,rfl,hle,⟨fun x o hx=>?_,fun x x' o o' b hx hx' _ _=>(hlk x o hx).1.trans (hlk x' o' hx').1.symm,fun x o b hx hbk=>?_,fun b hg=>⟨Qc2 (hm.gb b hg).1 hb.size,(hm.gb b hg).2⟩,⟨hb.os,hb.tape,hb.output,hb.size,fun b hlt _=>hb.block b hlt⟩,fun r hr=>absurd hr (by simp),hm.anc.2.up hle⟩,?_⟩
 ·obtain⟨rfl,rfl⟩:=hlk x o hx
  refine⟨.inr rfl,?_⟩
  rw[hb0]
  exact⟨z3d l',by rw[hst'];exact .of_one ho' hn',hmx',fun i j hi hj=>by
   rw[hst']at hj⊢
   have:j=0:=by omega
   subst this
   rw[Qf6,Qd9]
   exact z7d hf' hi⟩
 ·obtain⟨rfl,rfl⟩:=hlk x o hx
  rw[hb0,q7g ho']at hbk
  have:=hnew b hbk
  exact⟨fun hg=>by have:=(hm.gb b hg).1;omega,.inl this⟩
 ·simp only[Den]
  exact⟨.inr rfl,hb0.symm,.inl ⟨A,_,cap,hform⟩⟩
end Go.Proofs.YteikjpbbhopkaaaGreatDoor.En
namespace Go.Proofs.YteikjpbbhopkaaaGreatDoor.En
open Go Go.RowKit
theorem q0c.callsG {P:Program} {f:Nat} {σ:CtF} (h:q0c P f σ) {W:World} {G:Nat→Prop} (hG:∀b,G b→b<W.heap.size) (hgl:j2i (g0 W G)) {args:List AV} {vs:List Value} {p:Prop} {r:AV} (hσ:σ args []=some (p,r,[])) (hp:p) (hd:q0e (g0 W G) args vs):
 Calls P f vs.toArray W (fun e w'=>∃u,e=.returned u∧Below W.heap.size W w'∧∃g':Gh,g'.W=w'∧(∀b,g'.G b→b<w'.heap.size)∧Den g' r u):=by
 have hnl:∀b,¬q5p (g0 W G) [] b:=by rintro b ⟨i,hi,_⟩;simp at hi
 refine Calls.mono (h.2 (g0 W G) args [] vs p r [] hσ hp ⟨fun r o h=>by simp[q8e]at h,fun r r' o o' b h=>by simp[q8e]at h,fun r o b h=>by simp[q8e]at h,fun b hb=>⟨hG b hb,.inl hb⟩,Kp.refl _ _,fun i hi=>by simp at hi,hgl⟩ (fun r hr=>False.elim hr) hd) fun e w' he=>?_
 obtain⟨u,g',rfl,rfl,_,hm,hdu⟩:=he
 exact⟨u,rfl,⟨hm.bel.os,hm.bel.tape,hm.bel.output,hm.bel.size,fun k hk=>hm.bel.block k hk (hnl k)⟩,g',rfl,fun b hb=>(hm.gb b hb).1,hdu⟩
theorem u0n {G:Nat→Prop} {W W':World} (h:KRG G W W'):(g0 W G).le (g0 W' G):=⟨h,fun _ hb=>hb,fun _ hr=>⟨hr,rfl⟩⟩
theorem z8i {G:Nat→Prop} {W W':World} (hG:∀b,G b→b<W.heap.size) (h:KRG G W W'):∀b,G b→b<W'.heap.size:=fun b hb=>by
 have h1:=h b hb
 rw[Qg9 (hG b hb)]at h1
 exact(Array.getElem?_eq_some_iff.1 h1).1
theorem k9o {G:Nat→Prop} {A B C:World} (h:KRG G A B) (h':KRG G B C):KRG G A C:=fun b hb=>(h' b hb).trans (h b hb)
theorem y2g {G:Nat→Prop} {A B C:World} {n:Nat} (h:KRG G A B) (hG:∀b,G b→b<n) (h':Below n B C):KRG G A C:=fun b hb=>(h'.block b (hG b hb)).trans (h b hb)
theorem u9v {A B:World} (h:Below A.heap.size A B) (Z:Nat→Prop):Kp Z A B:=⟨h.os,h.tape,h.output,h.size,fun b hb _=>h.block b hb⟩
end Go.Proofs.YteikjpbbhopkaaaGreatDoor.En
namespace Go.Proofs.YteikjpbbhopkaaaGreatDoor.En
open Go Go.RowKit
theorem u6d {P:Program} {l:Nat} {r:Loop} {args:Array Value} {W:World} {R:Ending→World→Prop} (hl:W.heap[l]? =some (.loop r)) (hs:args.size=r.params.size) (hr:r.state=.ready)
 (h:r.assign.wpIn (FR (some l)) 2 P (fun e a2 W2=>e=.normal∧W2.heap[l]? =some (.loop r)∧r.body.wpIn (FR (some l)) 2 P (fun e a3 W3=>∃r3:Loop,W3.heap[l]? =some (.loop r3)∧
  ((e=.normal∧R (.returned (.bool true)) (W3.putObj l (.loop {r3 with state:=.ready,pending:=none})))∨
   (e=.ret∧R (.returned (.bool false)) (W3.putObj l (.loop {r3 with state:=.done,pending:=some .ret}))))) a2 (W2.putObj l (.loop {r with state:=.busy})))
  {tmps:=(r.params.zip args).foldl (fun tmps (x:Nat×Value)=>tmps.setIfInBounds x.1 x.2) r.tmps,defers:=[]} W):YieldAt (FR none) 2 P l args W R:=by
 refine⟨r.fn,_,r.assign,r.body,run_yield hl hs,roundIn_of_wpIn (F:=FR none) trivial ?_⟩
 refine wpIn_mono (F:=FR (some l)) h ?_
 rintro e a2 W2 ⟨rfl,h2,hb⟩
 refine⟨_,run_beginRound h2 hr,?_⟩
 refine wpIn_mono (F:=FR (some l)) hb ?_
 rintro e a3 W3 ⟨r3,h3,⟨rfl,hR⟩|⟨rfl,hR⟩⟩
 ·exact⟨_,_,run_endRound (P:=P) none h3,hR⟩
 ·exact⟨_,_,run_endRound (P:=P) (some .ret) h3,hR⟩
def u9f (P:Program) (gf:Nat) (lb:Array Value) (KR:World→World→Prop) (S0:Nat→Prop) (N:Nat) (X:Nat→Array Value→Prop) (w:World):Prop:=
 ∀(l:Nat) (J Jx:Nat→(Nat→Prop)→World→Prop) (Z:Nat→Prop) (W:World),KR w W→(∀b,S0 b→Z b∧W.heap[b]? =w.heap[b]?)→
  (∀i Z W W',J i Z W→Kp Z W W'→J i (grew Z W W') W')→(∀i Z W W',Jx i Z W→Kp Z W W'→Jx i (grew Z W W') W')→
  (∀i Z W1 v,i<N→J i Z W1→X i v→YieldAt (FR none) 2 P l v W1 fun e W'=>
   ((e=.returned (.bool true)∧J (i+1) Z W')∨(e=.returned (.bool false)∧Jx (i+1) Z W'))∧KR W1 W'∧(∀b,Z b→W'.heap[b]? =W1.heap[b]?)∧W1.heap.size≤W'.heap.size)→
  J 0 Z W→Calls P gf (#[.func (.yield l) #[] #[]]++lb) W fun e W'=>(∃v,e=.returned v)∧((∃Z,J N Z W')∨∃i Z,Jx i Z W')
theorem u1p.s {P:Program} {gf:Nat} {lb:Array Value} {KR:World→World→Prop} {N:Nat} {xs:Nat→Array Value} {w:World} (h:u1p P gf lb KR N xs w) (S0:Nat→Prop):u9f P gf lb KR S0 N (fun i v=>v=xs i) w:=
 fun l J Jx Z W h1 _ h2 h3 h4 h5=>h l J Jx Z W h1 h2 h3 (fun i Z W1 hi hj=>h4 i Z W1 _ hi hj rfl) h5
theorem k5e {P:Program} {gop:Operand} {ps:Array Nat} {assign body:Code} {Q:Exit→Act→World→Prop} {a:Act} {W:World} {gf:Nat} {lb:Array Value} {N:Nat} {X:Nat→Array Value→Prop} {G:Nat→Prop}
 (hen:∀args W,(callFunc gf args).run P W=.ok (.enter gf args) W) (hgop:a.eval gop=.func (.func gf) #[] lb) {S:Nat→Prop} (hseq:u9f P gf lb (KRG G) S N X W) (hG:∀b,G b→b<W.heap.size) (hps:∀i v,i<N→X i v→v.size=ps.size)
 (J:Nat→(Nat→Prop)→World→Prop) (hJ:∀i Z W W',J i Z W→Kp Z W W'→J i (grew Z W W') W') (Jx:(Nat→Prop)→World→Prop) (hJx:∀Z W W',Jx Z W→Kp Z W W'→Jx (grew Z W W') W')
 (Z:Nat→Prop) (hSZ:∀b,S b→Z b) (hGS:∀b,G b→¬S b) (hSlt:∀b,S b→b<W.heap.size) (h0:J 0 Z W)
 (hbody:∀(rec:Loop) i Zi Wi l v,i<N→X i v→J i Zi Wi→(∀b,Z b→Zi b)→Zi l→W.heap.size≤l→Wi.heap[l]? =some (.loop rec)→rec.state=.ready→rec.tmps=a.tmps→rec.params=ps→rec.body=body→KRG G W Wi→(∀b,Z b→b<W.heap.size→¬S b→Wi.heap[b]? =W.heap[b]?)→W.heap.size≤Wi.heap.size→
  assign.wpIn (FR (some l)) 2 P (fun e a2 W2=>e=.normal∧W2.heap[l]? =some (.loop rec)∧body.wpIn (FR (some l)) 2 P (fun e a3 W3=>
   KRG G Wi W3∧Wi.heap.size≤W3.heap.size∧(∀b,Zi b→b<Wi.heap.size→b≠l→W3.heap[b]? =Wi.heap[b]?)∧W3.heap[l]? =some (.loop {rec with state:=.busy})∧∃Z3,(∀b,Zi b→Z3 b)∧
    ((e=.normal∧J (i+1) Z3 W3)∨(e=.ret∧Jx Z3 W3))) a2 (W2.putObj l (.loop {rec with state:=.busy})))
   {tmps:=(ps.zip v).foldl (fun tmps (x:Nat×Value)=>tmps.setIfInBounds x.1 x.2) a.tmps,defers:=[]} Wi)
 (hdone:∀D Z' W',J N Z' W'→(∀b,Z b→Z' b)→KRG G W W'→(∀b,Z b→b<W.heap.size→¬S b→W'.heap[b]? =W.heap[b]?)→W.heap.size≤W'.heap.size→W'.heap[D]? =some dfr→Z' D→W.heap.size≤D→Q .normal {a with defers:=mkD D::a.defers} W')
 (hret:∀D Z' W',Jx Z' W'→(∀b,Z b→Z' b)→KRG G W W'→(∀b,Z b→b<W.heap.size→¬S b→W'.heap[b]? =W.heap[b]?)→W.heap.size≤W'.heap.size→W'.heap[D]? =some dfr→Z' D→W.heap.size≤D→Q .ret {a with defers:=mkD D::a.defers} W'):
 (Code.rangeFunc gop ps assign body).wpIn (FR none) 3 P Q a W:=by
 refine wpIn_rangeFunc ?_
 intro fn _
 obtain⟨rec,hrec⟩:∃rec:LoopState→Option Code→Loop,rec=fun st pe=>{state:=st,pending:=pe,fn,tmps:=a.tmps,params:=ps,assign,body,defers:=W.heap.size}:=⟨_,rfl⟩
 obtain⟨L,hL⟩:∃L,L=(W.heap.size+1):=⟨_,rfl⟩
 obtain⟨W1,hW1⟩:∃W1,(W.alloc dfr).alloc (.loop (rec .ready none))=W1:=⟨_,rfl⟩
 have hL1:W1.heap[L]? =some (.loop (rec .ready none)):=by
  rw[←hW1,hL];have:=World.alloc_heap_new (W.alloc dfr) (.loop (rec .ready none));rwa [World.size_alloc]at this
 have hK1:W1.heap[W.heap.size]? =some dfr:=by
  rw[←hW1];exact(Below.heap_alloc _ _ _ (by simp)).trans (World.alloc_heap_new W _)
 have hk1:Kp (fun _=>False) W W1:=by rw[←hW1];exact((Kp.refl _ _).alloc _).alloc _
 have hsz1:W1.heap.size=W.heap.size+2:=by rw[←hW1];simp
 let K:((Nat→Prop)→World→Prop)→Loop→(Nat→Prop)→World→Prop:=fun JJ r Zs W'=>∃Z',JJ Z' W'∧(∀b,Zs b→Z' b)∧(∀b,Z b→Z' b)∧Z' L∧¬Zs L∧W'.heap[L]? =some (.loop (r))∧(Z' (W.heap.size)∧¬Zs (W.heap.size)∧W'.heap[W.heap.size]? =some dfr)∧(∀b,Zs b→(S b∨W1.heap.size≤b)∧b<W'.heap.size)∧(∀b,Z b→b<W.heap.size→¬S b→W'.heap[b]? =W.heap[b]?)∧W1.heap.size≤W'.heap.size∧KRG G W W'
 have kstep:∀(JJ:(Nat→Prop)→World→Prop) r Zs W' W2,(∀Z W W',JJ Z W→Kp Z W W'→JJ (grew Z W W') W')→K JJ r Zs W'→Kp Zs W' W2→K JJ r (grew Zs W' W2) W2:=by
  rintro JJ r Zs W' W2 hJJ ⟨Z',hj,hZs,hZZ,hzL,hnL,hrL,⟨hzD,hnD,hD⟩,hSs,hfr,hsz,hkr⟩ hk
  have hlt:∀b,b<W1.heap.size→b<W'.heap.size:=fun b hb=>by omega
  refine⟨grew Z' W' W2,hJJ _ _ _ hj (hk.mono fun b _ hb=>hZs b hb),fun b hb=>hb.imp (hZs b) id,fun b hb=>.inl (hZZ b hb),.inl hzL,?_,(hk.block L (hlt L (by omega)) hnL).trans hrL,⟨.inl hzD,?_,(hk.block _ (hlt _ (by omega)) hnD).trans hD⟩,?_,fun b hb hbl hs=>(hk.block b (hlt b (by omega)) ?_).trans (hfr b hb hbl hs),Qc0 hsz hk.size,fun b hb=>(hk.block b (hlt b (by have:=hG b hb;omega)) ?_).trans (hkr b hb)⟩
  ·rintro(h|h)
   ·exact hnL h
   ·omega
  ·rintro(h|h)
   ·exact hnD h
   ·omega
  ·rintro b (h|h)
   ·exact⟨(hSs b h).1,Qc2 (hSs b h).2 hk.size⟩
   ·exact⟨.inr (by omega),h.2⟩
  ·intro h
   rcases(hSs b h).1 with h|h
   ·exact hs h
   ·omega
  ·intro h
   rcases(hSs b h).1 with h|h
   ·exact hGS b hb h
   ·have:=hG b hb;omega
 have hb0:K (J 0) (rec .ready none) S W1:=by
  refine⟨grew Z W W1,hJ 0 Z W W1 h0 (hk1.mono fun _ _ h=>h.elim),fun b hb=>.inl (hSZ b hb),fun b hb=>.inl hb,.inr ⟨by omega,by omega⟩,fun h=>by have:=hSlt L h;omega,hL1,⟨.inr ⟨by omega,by omega⟩,fun h=>by have:=hSlt _ h;omega,hK1⟩,fun b hb=>⟨.inl hb,by have:=hSlt b hb;omega⟩,fun b hb hbl _=>hk1.block b hbl id,Qb8 _,fun b hb=>hk1.block b (hG b hb) id⟩
 have hcore:Calls P gf (#[.func (.yield L) #[] #[]]++lb) W1 fun e W'=>(∃v,e=.returned v)∧((∃Zs,K (J N) (rec .ready none) Zs W')∨∃Zs,K Jx (rec .done (some .ret)) Zs W'):=by
  refine Calls.mono (hseq L (fun i Zs W'=>K (J i) (rec .ready none) Zs W') (fun _ Zs W'=>K Jx (rec .done (some .ret)) Zs W') S W1 (fun b hb=>hk1.block b (hG b hb) id) (fun b hb=>⟨hb,hk1.block b (hSlt b hb) id⟩) (fun i Zs W' W2 h hk=>kstep _ _ _ _ _ (hJ i) h hk) (fun i Zs W' W2 h hk=>kstep _ _ _ _ _ hJx h hk) ?_ hb0) ?_
  ·rintro i Zs Wi vv hi ⟨Z',hj,hZs,hZZ,hzL,hnL,hrL,⟨hzD,hnD,hD⟩,hSs,hfr,hsz,hkr⟩ hX
   refine u6d (r:=rec .ready none) hrL (by rw[hrec];exact hps i vv hi hX) (by rw[hrec]) ?_
   have hb:=hbody (rec .ready none) i Z' Wi L vv hi hX hj hZZ hzL (by omega) hrL (by rw[hrec]) (by rw[hrec]) (by rw[hrec]) (by rw[hrec]) hkr hfr (by omega)
   have e1:(rec .ready none).assign=assign:=by rw[hrec]
   have e2:(rec .ready none).body=body:=by rw[hrec]
   have e3:(rec .ready none).params=ps:=by rw[hrec]
   have e4:(rec .ready none).tmps=a.tmps:=by rw[hrec]
   rw[←e1,←e3,←e4]at hb
   refine wpIn_mono (F:=FR (some L)) hb ?_
   rintro e a2 W2 ⟨rfl,h2,hb2⟩
   rw[←e2]at hb2
   refine⟨rfl,h2,wpIn_mono (F:=FR (some L)) hb2 ?_⟩
   rintro e a3 W3 ⟨hk3,hs3,hz3,hl3,Z3,hZ3,hend⟩
   have hlt3:L<W3.heap.size:=(Array.getElem?_eq_some_iff.1 hl3).1
   have hzz:∀(o:Obj) b,Zs b→(W3.putObj L o).heap[b]? =Wi.heap[b]? :=fun o b hb=>by
    have hne:b≠L:=fun e=>hnL (e▸hb)
    exact(World.putObj_heap_other hne).trans (hz3 b (hZs b hb) (hSs b hb).2 hne)
   have hGL:∀b,G b→b≠L:=fun b hb e=>by have:=hG b hb;omega
   have kp3:∀o:Obj,Kp Z3 W3 (W3.putObj L o):=fun o=>⟨rfl,rfl,rfl,by simp,fun b _ hn=>World.putObj_heap_other (fun e=>hn (e▸hZ3 _ hzL))⟩
   refine⟨_,hl3,?_⟩
   have kk:∀(JJ:(Nat→Prop)→World→Prop) (r:Loop),(∀Z W W',JJ Z W→Kp Z W W'→JJ (grew Z W W') W')→JJ Z3 W3→K JJ r Zs (W3.putObj L (.loop r)):=by
    intro JJ r hJJ hj3
    refine⟨grew Z3 W3 (W3.putObj L (.loop r)),hJJ _ _ _ hj3 (kp3 _),fun b hb=>.inl (hZ3 b (hZs b hb)),fun b hb=>.inl (hZ3 b (hZZ b hb)),.inl (hZ3 _ hzL),hnL,World.putObj_heap_same hlt3,⟨.inl (hZ3 _ hzD),hnD,(World.putObj_heap_other (by omega)).trans ((hz3 _ hzD (by omega) (by omega)).trans hD)⟩,fun b hb=>⟨(hSs b hb).1,by have:=(hSs b hb).2;simp;omega⟩,fun b hb hbl hs=>?_,by simp;omega,fun b hb=>(World.putObj_heap_other (hGL b hb)).trans ((hk3 b hb).trans (hkr b hb))⟩
    have hne:b≠L:=by omega
    exact(World.putObj_heap_other hne).trans ((hz3 b (hZZ b hb) (by omega) hne).trans (hfr b hb hbl hs))
   have hst:{{(rec .ready none)with state:=.busy}with state:=.ready,pending:=none}=rec .ready none:=by rw[hrec]
   have hst2:{{(rec .ready none)with state:=.busy}with state:=.done,pending:=some .ret}=rec .done (some .ret):=by rw[hrec]
   rcases hend with⟨rfl,hj3⟩|⟨rfl,hj3⟩
   ·refine .inl ⟨rfl,?_⟩
    rw[hst]
    exact⟨.inl ⟨rfl,kk _ _ (hJ (i+1)) hj3⟩,fun b hb=>(World.putObj_heap_other (hGL b hb)).trans (hk3 b hb),hzz _,by simp;omega⟩
   ·refine .inr ⟨rfl,?_⟩
    rw[hst2]
    exact⟨.inr ⟨rfl,kk _ _ hJx hj3⟩,fun b hb=>(World.putObj_heap_other (hGL b hb)).trans (hk3 b hb),hzz _,by simp;omega⟩
  ·rintro e W' ⟨hv,h⟩
   exact⟨hv,h.imp id fun⟨_,Zs,h⟩=>⟨Zs,h⟩⟩
 refine⟨L,[mkD W.heap.size],W1,{target:=.fn (.func gf) lb,args:= #[.func (.yield L) #[] #[]]},W1,gf,#[.func (.yield L) #[] #[]]++lb,W1,?_,?_,fun _ _=>trivial,?_,j4n,?_⟩
 ·rw[←hW1,hrec,hL];exact run_enterLoop_outer _ _ _ _ _
 ·simp only[resolve,hgop]
  simp[go_sem]
 ·simp[invoke,go_sem,hen]
 ·refine q2p.2 (Calls.mono hcore ?_)
  rintro e W' ⟨⟨v,rfl⟩,⟨Zs,Z',hj,hZs,hZZ,hzL,hnL,hrL,⟨hzD,hnD,hD⟩,hSs,hfr,hsz,hkr⟩|⟨Zs,Z',hj,hZs,hZZ,hzL,hnL,hrL,⟨hzD,hnD,hD⟩,hSs,hfr,hsz,hkr⟩⟩
  all_goals
   have hend:=run_endLoop (P:=P) hrL (by rw[hrec];simp)
   have kp3:∀o:Obj,Kp Z' W' (W'.putObj L o):=fun o=>⟨rfl,rfl,rfl,by simp,fun b _ hn=>World.putObj_heap_other (fun e=>hn (e▸hzL))⟩
   rw[hrec]at hend
   have hfr2:∀(o:Obj) b,Z b→b<W.heap.size→¬S b→(W'.putObj L o).heap[b]? =W.heap[b]? :=fun o b hb hbl hs=>(World.putObj_heap_other (by omega)).trans (hfr b hb hbl hs)
   have hkr2:∀o:Obj,KRG G W (W'.putObj L o):=fun o b hb=>(World.putObj_heap_other (by have:=hG b hb;omega)).trans (hkr b hb)
  ·exact⟨none,_,hend,hdone W.heap.size _ _ (hJ N _ _ _ hj (kp3 _)) (fun b hb=>.inl (hZZ b hb)) (hkr2 _) (hfr2 _) (by simp;omega) ((World.putObj_heap_other (by omega)).trans hD) (.inl hzD) (Qb8 _)⟩
  ·exact⟨some .ret,_,hend,wpIn_ret (hret W.heap.size _ _ (hJx _ _ _ hj (kp3 _)) (fun b hb=>.inl (hZZ b hb)) (hkr2 _) (hfr2 _) (by simp;omega) ((World.putObj_heap_other (by omega)).trans hD) (.inl hzD) (Qb8 _))⟩
end Go.Proofs.YteikjpbbhopkaaaGreatDoor.En
namespace Go.Proofs.YteikjpbbhopkaaaGreatDoor.En
open Go
theorem z4a {P : Program} {f : Nat} {fn : Func} {c : Code} {σ : CtF} (hf : P.funcs[f]? = some fn) (hname : (fn.name == "runtime.NumGoroutine") = false) (hb : fn.body = some c)
 (h:∀args os p r outs,σ args os=some (p,r,outs)→p→False):q0c P f σ:=
 ⟨fun args W=>q0r hf hname hb args W,fun g args os vs p r outs hσ hp=>(h args os p r outs hσ hp).elim⟩
theorem z6r {P:Program} {f:Nat} {σ:Nat→CtF} {τ:CtF} (h:∀n,q0c P f (σ n)) (hτ:∀args os p r outs,τ args os=some (p,r,outs)→p→∃n q,σ n args os=some (q,r,outs)∧q):q0c P f τ:=
 ⟨(h 0).1,fun g args os vs p r outs hσ hp=>by
  obtain⟨n,q,h1,h2⟩:=hτ args os p r outs hσ hp
  exact(h n).2 g args os vs q r outs h1 h2⟩
theorem z2k {P:Program} {f:Nat} {σ:Nat→CtF} (h0:q0c P f (σ 0)) (h:∀n,q0c P f (σ n)→q0c P f (σ (n+1))):∀n,q0c P f (σ n)
 |0=>h0
 |n+1=>h n (z2k h0 h n)
end Go.Proofs.YteikjpbbhopkaaaGreatDoor.En
