/- Lemmas and contracts for the row. -/
import Derived.Test.YteikjpbbhopkaaaGreatDoorPkRowElimGatesX
import Derived.Lib.AppendStr
set_option linter.unusedVariables false
set_option linter.unusedSimpArgs false
set_option linter.unnecessarySimpa false
namespace Go.Proofs.YteikjpbbhopkaaaGreatDoor.En
open Go Go.RowKit
section
variable {P : Program} (w : World)
end
section
variable {P : Program} {cx : Cx} {w0 : Base} {G0 : Nat → Prop} {g : Gh} {H hp : Nat → Option q0d} {nm : Nat} {ins : List AV} {vs : List Value} {ps : List Prop} {v : AV} {hs : List (Nat × Option q0d)} {ρ : Operand → Value} {o : Oper}
theorem y5n (hcx:q1c P cx) (hhp:∀r o,hp r=some o→H r=some o) (hm:MOk w0 G0 g H) (hn:¬g.U nm) (hin:q0e g ins vs) {t t2:Nat} (hc:z1w cx nm t t2 hp ins=some (ps,v,hs)) (hps:q3n ps)
 {c:Call} {x y:Operand} (hop:o.op=.call c) (hb:c.callee=.builtin .append) (ht:c.argTypes= #[t,t2]) (ha:c.args= #[x,y]) (hv:[ρ x,ρ y]=vs):Eff P ρ o g.W (Good w0 G0 g nm (q2e H hs) v):=by
 unfold z1w at hc;exact y4s hcx hhp hm hn hin hc hps hop hb ht ha hv
theorem y4q {t t2:Nat} (hc:z1w cx nm t t2 hp ins=some (ps,v,hs)):∃x y,ins=[x,y]:=by
 unfold z1w z6d at hc
 split at hc
 ·exact⟨_,_,rfl⟩
 ·cases hc
theorem k5i (hcx:q1c P cx) (hm:MOk w0 G0 g H) (hin:q0e g ins vs) (hhp:∀r o,hp r=some o→H r=some o) {t:Nat} (hc:k9b cx t ins=some (ps,v,hs)) {c:Call} {x:Operand} (hop:o.op=.call c) (hb:c.callee=.builtin .len) (ht:c.argTypes= #[t]) (ha:c.args= #[x]) (hv:[ρ x]=vs):
 Eff P ρ o g.W (Good w0 G0 g nm (q2e H hs) v):=by
 unfold k9b at hc;cases hc
theorem x4n (hcx:q1c P cx) (hm:MOk w0 G0 g H) (hin:q0e g ins vs) {t:Nat} (hc:y6e cx t ins=some (ps,v,hs)) (hps:q3n ps) {x y:Operand} (hop:o.op=.index t x y) (hv:[ρ x,ρ y]=vs):Eff P ρ o g.W (Good w0 G0 g nm (q2e H hs) v):=by
 unfold y6e at hc;cases hc
theorem y6j (hcx:q1c P cx) (hm:MOk w0 G0 g H) (hin:q0e g ins vs) {t:Nat} {x:Operand} {lo hi mx:Option Operand} (hc:j4q cx t lo.isSome hi.isSome mx.isSome ins=some (ps,v,hs)) (hps:q3n ps)
 (hop:o.op=.slice t x lo hi mx) (hv:(x::(lo.toList++hi.toList++mx.toList)).map ρ=vs):Eff P ρ o g.W (Good w0 G0 g nm (q2e H hs) v):=by
 unfold j4q at hc
 split at hc
 ·rename_i z hz
  rw[hc]at hz
  exact j9d hcx hm hin hz hps hop hv
 ·unfold k1c at hc;cases hc
theorem Eff.mono {P:Program} {ρ:Operand→Value} {o:Oper} {W:World} {K K':Value→World→Prop} (h:Eff P ρ o W K) (hk:∀u w',K u w'→K' u w'):Eff P ρ o W K':=by
 unfold Eff at h⊢
 generalize (execOp ρ o).run P W=r at h⊢
 cases r with
 |ok n w=>
  cases n with
  |value u=>exact hk _ _ h
  |skip=>exact hk _ _ h
  |enter f args=>exact Calls.mono h fun e w' ⟨u,h1,h2⟩=>⟨u,h1,hk _ _ h2⟩
  |_=>exact h
 |_=>exact h
theorem x4j (hcx:q1c P cx) (hm:MOk w0 G0 g H) (hhp:∀r o,hp r=some o→H r=some o) (hin:q0e g ins vs) {t:Nat} {x:Operand} {lo hi mx:Option Operand} (hc:y7m cx t lo.isSome hi.isSome mx.isSome hp ins=some (ps,v,hs)) (hps:q3n ps)
 (hop:o.op=.slice t x lo hi mx) (hv:(x::(lo.toList++hi.toList++mx.toList)).map ρ=vs):Eff P ρ o g.W (Good w0 G0 g nm (q2e H hs) v):=by
 unfold y7m at hc
 split at hc
 ·rename_i z hz
  rw[hc]at hz
  exact y6j hcx hm hin hz hps hop hv
 ·unfold x6n at hc
  split at hc
  ·rename_i r rest _
   split at hc
   ·rename_i e l hr
    split at hc
    ·rename_i ps' v' hs'
     simp only[Option.some.injEq,Prod.mk.injEq]at hc
     obtain⟨rfl,rfl,rfl⟩:=hc
     obtain⟨g1,k1,k2,k3,k4,k5,k6⟩:=j7i [r] hm
     simp only[q0e]at hin
     obtain⟨u,us,e1,hd,hrest⟩:=hin
     have hrep:=k6 r Qb4 e l (hhp r _ hr)
     have hu:u=g.β r:=by simp only[Den]at hd;exact hd.2.1
     have hin1:q0e g1 (.im (.ls l)::rest) vs:=by
      simp only[q0e]
      exact⟨u,us,e1,by simp only[Den];rw[hu];exact hrep,q0e.mono k4 rest us hrest⟩
     have h:=j9d (nm:=nm) hcx k5 hin1 hs' hps hop hv
     rw[k1]at h
     refine Eff.mono h fun u' w' hg=>?_
     obtain⟨g',a1,a2,a3,a4,a5⟩:=hg
     exact⟨g',a1,k4.trans a2,fun r=>by rw[a3,k3],a4,a5⟩
    ·cases hc
   ·cases hc
  ·cases hc
end
end Go.Proofs.YteikjpbbhopkaaaGreatDoor.En
namespace Go.Proofs.YteikjpbbhopkaaaGreatDoor.En
open Go Go.RowKit
section
variable {P:Program} {cx:Cx} {w0:Base} {G0:Nat→Prop} {g:Gh} {H hp:Nat→Option q0d} {nm:Nat}
 {ins:List AV} {vs:List Value} {ρ:Operand→Value} {o:Oper} {ps:List Prop} {v:AV} {hs:List (Nat×Option q0d)}
theorem q7f (hcx:q1c P cx) {t e:Nat} (h:y3a cx t=some e):∃k,P.underlying t=some (.map k e)∧P.underlying k=some (.int .i64)∧∀i cs,P.info? e=some i→i.zero≠some (.agg cs):=by
 unfold y3a at h
 split at h
 ·rename_i td ht
  have hok:=(hcx.ty t td ht).2.2
  cases hb:Nat.beq td.ik 10 with
  |false=>rw[hb]at h;cases h
  |true=>
   rw[hb]at h
   simp only[cond_true,Option.some.injEq]at h
   unfold u8h at hok
   rw[hb]at hok
   simp only[cond_true]at hok
   split at hok
   ·rename_i k e' hu
    simp only[Qa2]at hok
    refine⟨k,?_,?_,fun i cs hi hz=>?_⟩
    ·rw[hu,Qb0 hok.1,h]
    ·have h2:=hok.2.1
     split at h2
     ·assumption
     ·cases h2
    ·have h2:=hok.2.2
     rw[Qb0 hok.1,h,hi]at h2
     simp[hz]at h2
   ·cases hok
 ·cases h
theorem j8p (h:MOk w0 G0 g H) (hn:¬g.U nm):Good w0 G0 g nm (q2e H [(nm,some (.mset []))]) (.row nm) (.map (some g.W.heap.size)) (g.W.alloc (.map #[] 0)):=by
 have hne:∀r,g.U r→r≠nm:=fun r hr e=>hn (e▸hr)
 have hHn:∀r o,H r=some o→r≠nm:=fun r o hr=>hne r (h.ok r o hr).1
 let g':Gh:=⟨g.W.alloc (.map #[] 0),g.G,fun r=>if r=nm then .map (some g.W.heap.size)else g.β r,fun r=>g.U r∨r=nm⟩
 have hkeep:∀b,b<g.W.heap.size→g'.W.heap[b]? =g.W.heap[b]? :=fun b hb=>Below.heap_alloc g.W _ b hb
 have hle:g.le g':=⟨fun b hb=>hkeep b (h.gb b hb).1,fun _ hb=>hb,fun r hr=>⟨.inl hr,if_neg (hne r hr)⟩⟩
 have hb1:g'.β nm=.map (some g.W.heap.size):=if_pos rfl
 have hb2:∀r,r≠nm→g'.β r=g.β r:=fun r hr=>if_neg hr
 have hupd:∀r o,q2e H [(nm,some (.mset []))] r=some o→(r=nm∧o=.mset [])∨(r≠nm∧H r=some o):=fun r o hr=>x3q hr
 refine⟨g',rfl,hle,fun _=>Iff.rfl,⟨?_,?_,?_,?_,?_,h.anc_up hle⟩,?_⟩
 ·intro r o hr
  rcases hupd r o hr with⟨rfl,rfl⟩|⟨hr',ho⟩
  ·rw[hb1]
   exact⟨.inr rfl,g.W.heap.size,rfl,j7m.made g.W⟩
  ·obtain⟨hu,hok⟩:=h.ok r o ho
   rw[hb2 r hr']
   exact⟨.inl hu,hok.up hle fun b hb=>hkeep b (hok.lt hb)⟩
 ·intro r r' o o' b hr hr' hb hb'
  rcases hupd r o hr with⟨rfl,rfl⟩|⟨hn1,ho⟩<;>rcases hupd r' o' hr' with⟨rfl,rfl⟩|⟨hn2,ho'⟩
  ·rfl
  ·rw[hb1]at hb
   rw[hb2 _ hn2]at hb'
   have:=(h.ok r' o' ho').2.lt hb'
   simp[q1k]at hb
   omega
  ·rw[hb1]at hb'
   rw[hb2 _ hn1]at hb
   have:=(h.ok r o ho).2.lt hb
   simp[q1k]at hb'
   omega
  ·rw[hb2 _ hn1]at hb
   rw[hb2 _ hn2]at hb'
   exact h.sep r r' o o' b ho ho' hb hb'
 ·intro r o b hr hb
  rcases hupd r o hr with⟨rfl,rfl⟩|⟨hn1,ho⟩
  ·rw[hb1]at hb
   simp[q1k]at hb
   subst hb
   exact⟨fun hg=>by have:=(h.gb _ hg).1;omega,.inl h.bel.size⟩
  ·rw[hb2 _ hn1]at hb
   exact h.own r o b ho hb
 ·intro b hb
  have:=h.gb b hb
  exact⟨by show b<(g.W.alloc _).heap.size;simp;omega,this.2⟩
 ·exact h.bel.alloc _
 ·simp only[Den]
  exact⟨.inr rfl,hb1.symm,.inr ⟨_,rfl⟩⟩
theorem j5z {r b:Nat} {o o':q0d} {ob:Obj} (h:MOk w0 G0 g H) (hr:H r=some o) (hb:q1k (g.β r)=some b)
 (hok:∀g':Gh,g'.W={g.W with heap:=g.W.heap.setIfInBounds b ob}→g.le g'→z2a g' (g.β r) o'):
 Good w0 G0 g nm (q2e H [(r,some o')]) .any undef {g.W with heap:=g.W.heap.setIfInBounds b ob}:=by
 have hnG:¬g.G b:=(h.own r _ b hr hb).1
 let g':Gh:=⟨{g.W with heap:=g.W.heap.setIfInBounds b ob},g.G,g.β,fun x=>g.U x∨x=nm⟩
 have hkeep:∀k,k≠b→g'.W.heap[k]? =g.W.heap[k]? :=fun k hk=>by
  show(g.W.heap.setIfInBounds b ob)[k]? =_
  rw[Qi5,if_neg (fun e=>hk e.symm)]
 have hle:g.le g':=⟨fun k hk=>hkeep k (fun e=>hnG (e▸hk)),fun _ hb=>hb,fun r hr=>⟨.inl hr,rfl⟩⟩
 have hupd:∀x p,q2e H [(r,some o')] x=some p→(x=r∧p=o')∨(x≠r∧H x=some p):=fun x p hx=>x3q hx
 have hsome:∀x p,q2e H [(r,some o')] x=some p→∃q,H x=some q:=fun x p hx=>by
  rcases hupd x p hx with⟨rfl,_⟩|⟨_,h1⟩
  ·exact⟨_,hr⟩
  ·exact⟨_,h1⟩
 refine⟨g',rfl,hle,fun _=>Iff.rfl,⟨?_,?_,?_,?_,?_,h.anc_up hle⟩,by simp only[Den]⟩
 ·intro x p hx
  rcases hupd x p hx with⟨rfl,rfl⟩|⟨hx',ho⟩
  ·exact⟨.inl (h.ok _ _ hr).1,hok g' rfl hle⟩
  ·obtain⟨hu,hok⟩:=h.ok x p ho
   exact⟨.inl hu,hok.up hle fun k hk=>hkeep k (fun e=>hx' (h.sep x r p _ b ho hr (e▸hk) hb))⟩
 ·intro x x' p p' k hx hx' hk hk'
  obtain⟨q,hq⟩:=hsome x p hx
  obtain⟨q',hq'⟩:=hsome x' p' hx'
  exact h.sep x x' q q' k hq hq' hk hk'
 ·intro x p k hx hk
  obtain⟨q,hq⟩:=hsome x p hx
  exact h.own x q k hq hk
 ·intro k hk
  have:=h.gb k hk
  exact⟨by show k<(g.W.heap.setIfInBounds b ob).size;simpa using this.1,this.2⟩
 ·refine⟨h.bel.os,h.bel.tape,h.bel.output,by simpa[g']using h.bel.size,fun k hk hn=>?_⟩
  have hb0:=(h.own r _ b hr hb).2
  refine(hkeep k (fun e=>?_)).trans (h.bel.block k hk hn)
  subst e
  rcases hb0 with h0|h0
  ·omega
  ·exact hn h0
theorem y6i (hcx:q1c P cx) (hm:MOk w0 G0 g H) (hn:¬g.U nm) (hin:q0e g ins vs) {t:Nat} {x:Option Operand} (hc:j6w cx nm t ins=some (ps,v,hs)) (hop:o.op=.makeMap t x) (hv:x.toList.map ρ=vs):
 Eff P ρ o g.W (Good w0 G0 g nm (q2e H hs) v):=by
 unfold j6w at hc
 have hnew:∀W:World,(newObj (.map #[] 0)).run P W=.ok W.heap.size (W.alloc (.map #[] 0)):=fun W=>by simp[newObj,Sem.run]
 split at hc
 ·split at hc
  ·rename_i e he
   simp only[Option.some.injEq,Prod.mk.injEq]at hc
   obtain⟨rfl,rfl,rfl⟩:=hc
   simp only[q0e]at hin
   subst hin
   have hx:x=none:=by cases x<;>simp_all
   subst hx
   refine .of_run (u:=.map (some g.W.heap.size)) (W':=g.W.alloc (.map #[] 0)) ?_ (j8p hm hn)
   simp[execOp,hop,Instr.makeMap,hnew,Result.andThen]
  ·cases hc
 ·rename_i k
  split at hc
  ·rename_i e he
   simp only[Option.some.injEq,Prod.mk.injEq]at hc
   obtain⟨rfl,rfl,rfl⟩:=hc
   obtain⟨u,e1,hd⟩:=q4w hin
   obtain⟨y,rfl⟩:∃y,x=some y:=by
    cases x with
    |none=>rw[e1]at hv;simp at hv
    |some y=>exact⟨y,rfl⟩
   rw[e1]at hv
   simp at hv
   have hy:=q0b hd
   rw[←hv]at hy
   obtain⟨kt,hu,_⟩:=q7f hcx he
   refine .of_run (u:=.map (some g.W.heap.size)) (W':=g.W.alloc (.map #[] 0)) ?_ (j8p hm hn)
   simp[execOp,hop,Instr.makeMap,hnew,hy,run_underlying hu,asInt,asIntOf,Result.andThen]
  ·cases hc
 ·cases hc
theorem z1l {r b:Nat} {u:Value} (hd:Den g (.row r) u) (hβ:g.β r=.map (some b)):u=.map (some b):=by
 simp only[Den]at hd
 exact hd.2.1.trans hβ
theorem j0y (hcx:q1c P cx) (hhp:∀r o,hp r=some o→H r=some o) (hm:MOk w0 G0 g H) (hin:q0e g ins vs) {t:Nat} (hc:j6i cx t hp ins=some (ps,v,hs)) (hps:q3n ps) {m k x:Operand}
 (hop:o.op=.mapUpdate t m k x∨o.op=.insert t m k x) (hv:[ρ m,ρ k,ρ x]=vs):Eff P ρ o g.W (Good w0 G0 g nm (q2e H hs) v):=by
 have hex:∀{W':World},(Instr.mapUpdate t (ρ m) (ρ k) (ρ x)).run P g.W=.ok () W'→(execOp ρ o).run P g.W=.ok .skip W'∨(execOp ρ o).run P g.W=.ok (.value undef) W':=fun h=>by
  rcases hop with hop|hop<;>simp[execOp,hop,h,Result.andThen]
 have fin:∀{W':World} {K:Value→World→Prop},(Instr.mapUpdate t (ρ m) (ρ k) (ρ x)).run P g.W=.ok () W'→K undef W'→Eff P ρ o g.W K:=fun h hk=>by
  rcases hex h with h|h
  ·exact .of_skip h hk
  ·exact .of_run h hk
 unfold j6i at hc
 split at hc
 ·rename_i r z b
  split at hc
  ·rename_i e ks he hr
   simp only[Option.some.injEq,Prod.mk.injEq]at hc
   obtain⟨rfl,rfl,rfl⟩:=hc
   have hb:b=true:=hps
   subst hb
   obtain⟨u1,u2,u3,e1,d1,d2,d3⟩:=y5w hin
   rw[e1]at hv
   simp only[List.cons.injEq,and_true]at hv
   obtain⟨q1,q2,q3⟩:=hv
   obtain⟨bk,hβ,hw⟩:=(hm.ok r _ (hhp r _ hr)).2
   obtain⟨kt,hu,hkt,hna⟩:=q7f hcx he
   obtain⟨ob,h1,h2⟩:=k7z t kt e hu hkt hw z
   refine fin (W':={g.W with heap:=g.W.heap.setIfInBounds bk ob}) ?_ (j5z hm (hhp r _ hr) (by rw[hβ];rfl) fun g' hW hle=>⟨bk,hβ,by rw[hW];exact h2⟩)
   rw[q1,q2,q3,z1l d1 hβ,q0b d2,q0b d3]
   exact h1
  ·cases hc
 ·rename_i r z f xs
  obtain⟨u1,u2,u3,e1,d1,d2,d3⟩:=y5w hin
  rw[e1]at hv
  simp only[List.cons.injEq,and_true]at hv
  obtain⟨q1,q2,q3⟩:=hv
  split at hc
  ·rename_i e he hr
   simp only[Option.some.injEq,Prod.mk.injEq]at hc
   obtain⟨rfl,rfl,rfl⟩:=hc
   obtain⟨bk,hβ,hw⟩:=(hm.ok r _ (hhp r _ hr)).2
   obtain⟨kt,hu,hkt,hna⟩:=q7f hcx he
   obtain⟨ob,h1,h2⟩:=j5m t kt e hu hkt hw z u3 (.inl rfl)
   replace h2:j7m {g.W with heap:=g.W.heap.setIfInBounds bk ob} bk ([z].zip [u3]):=h2
   refine fin (W':={g.W with heap:=g.W.heap.setIfInBounds bk ob}) ?_ (j5z hm (hhp r _ hr) (by rw[hβ];rfl) fun g' hW hle=>⟨bk,[u3],hβ,rfl,by rw[hW];exact h2,by simp only[q0e];exact⟨u3,[],rfl,Den.mono hle _ _ d3,rfl⟩⟩)
   rw[q1,q2,q3,z1l d1 hβ,q0b d2]
   exact h1
  ·rename_i e ks cs he hr
   cases hall:ks.all fun j=> !decide (j=z)with
   |false=>rw[hall]at hc;cases hc
   |true=>
    rw[hall]at hc
    simp only[cond_true,Option.some.injEq,Prod.mk.injEq]at hc
    obtain⟨rfl,rfl,rfl⟩:=hc
    have hnot:z∉ks:=fun hz=>by simpa using(List.all_eq_true.1 hall) z hz
    obtain⟨bk,us,hβ,hl,hw,hd⟩:=(hm.ok r _ (hhp r _ hr)).2
    obtain⟨kt,hu,hkt,hna⟩:=q7f hcx he
    have hf:q7w (ks.zip us) z=none:=k3p hnot
    obtain⟨ob,h1,h2⟩:=j5m t kt e hu hkt hw z u3 (.inl hf)
    rw[if_pos hf]at h2
    have hz:(ks++[z]).zip (us++[u3])=ks.zip us++[(z,u3)]:=by rw[List.zip_append hl.symm];rfl
    refine fin (W':={g.W with heap:=g.W.heap.setIfInBounds bk ob}) ?_ (j5z hm (hhp r _ hr) (by rw[hβ];rfl) fun g' hW hle=>⟨bk,us++[u3],hβ,by simp[hl],by rw[hW,hz];exact h2,(hd.mono hle).append (by simp only[q0e];exact⟨u3,[],rfl,Den.mono hle _ _ d3,rfl⟩)⟩)
    rw[q1,q2,q3,z1l d1 hβ,q0b d2]
    exact h1
  ·cases hc
 ·cases hc
theorem j3d {k:Int}:∀{ks:List Int} {cs:List AV} {us:List Value} {x:AV},x2y k ks cs=some x→us.length=ks.length→q0e g cs us→∃u,q7w (ks.zip us) k=some u∧Den g x u
 |[],cs,us,x,h,_,_=>by simp[x2y]at h
 |j::ks,[],us,x,h,_,_=>by simp[x2y]at h
 |j::ks,c::cs,us,x,h,hl,hd=>by
  simp only[q0e]at hd
  obtain⟨u,us',rfl,d1,d2⟩:=hd
  simp only[x2y]at h
  by_cases e:j=k
  ·subst e
   simp at h
   subst h
   exact⟨u,by simp[q7w],d1⟩
  ·simp[e]at h
   obtain⟨u',h1,h2⟩:=j3d h (by simpa using hl) d2
   refine⟨u',?_,h2⟩
   unfold q7w at h1⊢
   rw[Qh5,Qj1]
   have:(j==k)=false:=by simpa using e
   simp only[this]
   exact h1
theorem j3z {w:World} {m:Nat} {f:Int→Option Value} (t kt et:TypeId) (ht:P.underlying t=some (.map kt et)) (hkt:P.underlying kt=some (.int .i64)) (h:q6r w m f) (k:Int) {u:Value} (hu:f k=some u):
 (Instr.lookup t (.map (some m)) (.int .i64 k) false).run P w=.ok u w:=by
 obtain⟨es,clock,hb,hk,hf⟩:=h
 have hc:=fun em:Bool=>j0c (P:=P) (w:=w) kt hkt em 9999 k
 have hg:(getObj m).run P w=.ok (.map es clock) w:=by simp[getObj,Sem.run,hb]
 rcases findNow_spec k .i64 es.toList 0 hk with⟨j,hj,h1,h2,h3,h4⟩|⟨h3,h2,h4⟩
 ·rw[←hf k,h4]at hu
  cases hu
  simp[Instr.lookup,run_underlying ht,hg,hc,Instr.findKey,run_underlying hkt,h3]
 ·rw[←hf k,h4]at hu
  cases hu
theorem k3j (hcx:q1c P cx) {e:Nat} (hna:∀i cs,P.info? e=some i→i.zero≠some (.agg cs)) (h:k4l cx e=true) (W:World):(zeroValue e).run P W=.ok (.bool false) W:=by
 unfold k4l at h
 split at h
 ·rename_i ed he
  split at h
  ·rename_i hz
   obtain⟨i,z,hi,hs,hz',hc,_⟩:=(hcx.ty e ed he).info
   rw[hz]at hc
   have:z=.bool false:=by
    cases z with
    |agg cs=>exact absurd hz' (hna i cs hi)
    |_=>simpa[Value.cells]using hc
   subst this
   unfold zeroValue
   rw[Sem.run_bind]
   simp[typeInfo,hi,hz']
  ·cases h
 ·cases h
theorem x3j (hcx:q1c P cx) (hhp:∀r o,hp r=some o→H r=some o) (hm:MOk w0 G0 g H) (hin:q0e g ins vs) {t:Nat} {ok:Bool} (hc:y6o cx t ok hp ins=some (ps,v,hs)) {m k:Operand}
 (hop:o.op=.lookup t m k ok) (hv:[ρ m,ρ k]=vs):Eff P ρ o g.W (Good w0 G0 g nm (q2e H hs) v):=by
 unfold y6o at hc
 split at hc
 ·rename_i r z
  obtain⟨u1,u2,e1,d1,d2⟩:=q4u hin
  rw[e1]at hv
  simp only[List.cons.injEq,and_true]at hv
  obtain⟨q1,q2⟩:=hv
  split at hc
  ·rename_i e ks he hr
   cases hz:k4l cx e with
   |false=>rw[hz]at hc;cases hc
   |true=>
    rw[hz]at hc
    simp only[cond_true]at hc
    obtain⟨rfl,rfl,rfl⟩:=q0q hc
    obtain⟨bk,hβ,hw⟩:=(hm.ok r _ (hhp r _ hr)).2
    obtain⟨kt,hu,hkt,hna⟩:=q7f hcx he
    have hz0:=k3j hcx hna hz
    have hf:=z7n ks z
    have hg1:(q7w (x4g ks) z).getD (.bool false)=.bool (ks.contains z):=by rw[hf];cases ks.contains z<;>rfl
    have hg2:(q7w (x4g ks) z).isSome=ks.contains z:=by rw[hf];cases ks.contains z<;>rfl
    cases ok with
    |false=>
     have h1:=q9x t kt e (.bool false) hu hkt hz0 hw.mapI z
     rw[hg1]at h1
     refine .of_run (u:=.bool (ks.contains z)) (W':=g.W) ?_ (q0m hm (q0g _))
     simp[execOp,hop,q1,q2,z1l d1 hβ,q0b d2,h1,Result.andThen]
    |true=>
     have h1:=v0z t kt e (.bool false) hu hkt hz0 hw.mapI z
     rw[hg1,hg2]at h1
     refine .of_run (u:=.tuple #[.bool (ks.contains z),.bool (ks.contains z)]) (W':=g.W) ?_ (q0m hm ?_)
     ·simp[execOp,hop,q1,q2,z1l d1 hβ,q0b d2,h1,Result.andThen]
     ·simp only[cond_true,Den]
      refine⟨[.bool (ks.contains z),.bool (ks.contains z)],rfl,?_⟩
      simp only[q0e]
      exact⟨_,_,rfl,q0g _,_,_,rfl,q0g _,rfl⟩
  ·rename_i e ks cs he hr
   cases ok with
   |true=>cases hc
   |false=>
    simp only[cond_false]at hc
    split at hc
    ·rename_i x hx
     obtain⟨rfl,rfl,rfl⟩:=q0q hc
     obtain⟨bk,us,hβ,hl,hw,hd⟩:=(hm.ok r _ (hhp r _ hr)).2
     obtain⟨kt,hu,hkt,hna⟩:=q7f hcx he
     obtain⟨u,h1,h2⟩:=j3d hx hl hd
     have h3:=j3z t kt e hu hkt hw.mapI z h1
     refine .of_run (u:=u) (W':=g.W) ?_ (q0m hm h2)
     simp[execOp,hop,q1,q2,z1l d1 hβ,q0b d2,h3,Result.andThen]
    ·cases hc
  ·cases hc
 ·cases hc
theorem k8w {t:Nat} (hc:x6z cx t hp ins=some (ps,v,hs)):∃x,ins=[x]:=by
 unfold x6z at hc
 split at hc
 ·rename_i z hz
  unfold cLen at hz
  split at hz
  ·exact⟨_,rfl⟩
  ·exact⟨_,rfl⟩
  ·exact⟨_,rfl⟩
  ·cases hz
 ·split at hc
  ·rename_i z hz
   unfold k9b at hz
   cases hz
  ·unfold u2m at hc
   split at hc
   ·exact⟨_,rfl⟩
   ·cases hc
theorem k6j (hcx:q1c P cx) (hm:MOk w0 G0 g H) (hin:q0e g ins vs) (hhp:∀r o,hp r=some o→H r=some o) {t:Nat} (hc:x6z cx t hp ins=some (ps,v,hs)) (hps:q3n ps) {c:Call} {x:Operand} (hop:o.op=.call c) (hb:c.callee=.builtin .len) (ht:c.argTypes= #[t]) (ha:c.args= #[x]) (hv:[ρ x]=vs):
 Eff P ρ o g.W (Good w0 G0 g nm (q2e H hs) v):=by
 unfold x6z at hc
 split at hc
 ·rename_i z hz
  rw[hc]at hz
  exact u4q hcx hm hin hhp hz hop hb ht ha hv
 ·split at hc
  ·rename_i z hz
   rw[hc]at hz
   exact k5i hcx hm hin hhp hz hop hb ht ha hv
  ·unfold u2m at hc
   split at hc
   ·rename_i r _ _
    split at hc
    ·rename_i e ks he hr
     simp only[Option.some.injEq,Prod.mk.injEq]at hc
     obtain⟨rfl,rfl,rfl⟩:=hc
     obtain⟨u,e1,hd⟩:=q4w hin
     rw[←hv]at e1
     cases e1
     obtain⟨bk,hβ,hw⟩:=(hm.ok r _ (hhp r _ hr)).2
     obtain⟨kt,hu,hkt,hna⟩:=q7f hcx he
     obtain⟨es,clock,hh,hsz⟩:=hw.cnt
     have hx:=z1l hd hβ
     have hn:es.size=ks.length:=by rw[hsz];simp[x4g]
     refine .of_run (u:=.int .i64 ks.length) (W':=g.W) ?_ (q0m hm (q0g _))
     have hg:(getObj bk).run P g.W=.ok (.map es clock) g.W:=by simp[getObj,Sem.run,hh]
     simp[execOp,hop,resolve,hb,ht,ha,invoke,builtin,Builtin.len_,hx,run_underlying hu,hg,hn,goInt,Result.andThen]
    ·cases hc
   ·cases hc
theorem k8s (hcx:q1c P cx) (hm:MOk w0 G0 g H) (hin:q0e g ins vs) {t t':Nat} {op:BinOp} {x y:Operand} (hc:u4x cx op t y ins=some (ps,v,hs)) (hps:q3n ps) (hop:o.op=.binOp op t x y t') (hv:[ρ x,ρ y]=vs):
 Eff P ρ o g.W (Good w0 G0 g nm (q2e H hs) v):=by
 unfold u4x at hc
 split at hc
 ·rename_i r hr
  cases hc
  exact u2l hcx hm hin hr hps hop hv
 ·unfold v1w at hc
  split at hc
  ·rename_i b _
   split at hc
   ·rename_i td htd _
    cases hk:Nat.beq td.ik 11 with
    |false=>rw[hk]at hc;cases hc
    |true=>
     rw[hk]at hc
     simp only[cond_true]at hc
     obtain⟨rfl,rfl,rfl⟩:=q0q hc
     obtain⟨u,u',e,hd,hd'⟩:=q4u hin
     rw[←hv]at e
     simp only[List.cons.injEq,and_true]at e
     obtain⟨e1,e2⟩:=e
     rw[q0b hd']at e2
     obtain⟨d,hu,hdd⟩:=(hcx.ty t td htd).desc
     have hik:(descOf d).2.2.2.2=11:=by rw[hdd];exact Qb0 hk
     have hi:P.underlying t=some (.interface (P.methodsAt t)):=by
      cases d with
      |interface ms=>rw[hu];simp[Program.methodsAt,hu]
      |int k=>cases k<;>simp[descOf,kNo]at hik
      |array n e=>simp[descOf]at hik;omega
      |_=>simp[descOf]at hik
     simp only[Den]at hd
     cases b with
     |true=>
      simp only[if_true]at hd
      obtain⟨te,pe,rfl⟩:=hd
      refine .of_run (u:=.bool true) (W':=g.W) ?_ (q0m hm (q0g _))
      have h1:=run_neq_held_nil (P:=P) (w:=g.W) t te pe hi
      simp[execOp,hop,e1,e2,h1,Result.andThen,eqGuard]
     |false=>
      simp only[Qj6,if_false]at hd
      subst hd
      refine .of_run (u:=.bool false) (W':=g.W) ?_ (q0m hm (q0g _))
      have h1:=run_neq_nil_nil (P:=P) (w:=g.W) t hi
      simp[execOp,hop,e1,e2,h1,Result.andThen,eqGuard]
   ·cases hc
  ·cases hc
end
end Go.Proofs.YteikjpbbhopkaaaGreatDoor.En
