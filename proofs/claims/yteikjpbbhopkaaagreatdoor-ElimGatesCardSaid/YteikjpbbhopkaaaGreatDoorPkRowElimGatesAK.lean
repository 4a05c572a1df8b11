/- Lemmas and contracts for the row. -/
import Derived.Test.YteikjpbbhopkaaaGreatDoorPkRowElimGatesQ
import Derived.Test.YteikjpbbhopkaaaGreatDoorPkRowElimGatesAD
import Derived.Test.YteikjpbbhopkaaaGreatDoorPkRowElimGatesY
set_option linter.unusedVariables false
set_option linter.unusedSimpArgs false
set_option linter.unnecessarySimpa false
namespace Go.Proofs.YteikjpbbhopkaaaGreatDoor.Cn
open Go
variable {N v : Int} {L : List (List Int)} {a : List Bool}
end Go.Proofs.YteikjpbbhopkaaaGreatDoor.Cn
namespace Go.Proofs.YteikjpbbhopkaaaGreatDoor.Cn
open Go
variable {N g v : Int} {X : List (List Int)}
end Go.Proofs.YteikjpbbhopkaaaGreatDoor.Cn
namespace Go.Proofs.YteikjpbbhopkaaaGreatDoor.Cn
open Go
variable {N g v w : Int} {X L : List (List Int)} {fz : List Int} {U : List Und} {k : Nat} {a : List Bool}
theorem z9u {l:List Int}:z0i v l=false↔v∉l∧-v∉l:=by
 unfold z0i;rw[Qc5];simp
theorem k5x (hv1:1≤v) (hv2:v≤65536) (hs:((q2r X v 65536).length:Int)≤65536):∀l∈q2r X v 65536,z0i v l=false:=fun l hl=>by
 rcases(z1j hs l).1 hl with h|⟨p,q,hp,hq,_,rfl⟩
 ·exact z9u.2 (q9t.1 h).2
 ·obtain⟨_,hp1,hp2⟩:=z3m.1 hp
  obtain⟨_,hq1,hq2⟩:=z3z.1 hq
  refine z9u.2 ⟨fun hm=>?_,fun hm=>?_⟩
  ·rcases((q7h hv1 hv2 hp hq).1 hm).1 with⟨_,h⟩|⟨h,_⟩
   ·exact h rfl
   ·exact hq2 h
  ·rcases((q7h hv1 hv2 hp hq).1 hm).1 with⟨h,_⟩|⟨_,h⟩
   ·exact hp2 h
   ·exact h rfl
theorem k5k (hv1:1≤v) (hv2:v≤65536) (hs:((q2r X v 65536).length:Int)≤65536) (h:∀l∈X,z0i w l=false):∀l∈q2r X v 65536,z0i w l=false:=fun l hl=>by
 rcases(z1j hs l).1 hl with h1|⟨p,q,hp,hq,_,rfl⟩
 ·exact h l (q9t.1 h1).1
 ·have h1:=z9u.1 (h p (z3m.1 hp).1)
  have h2:=z9u.1 (h q (z3z.1 hq).1)
  refine z9u.2 ⟨fun hm=>?_,fun hm=>?_⟩
  ·rcases((q7h hv1 hv2 hp hq).1 hm).1 with⟨h,_⟩|⟨h,_⟩
   ·exact h1.1 h
   ·exact h2.1 h
  ·rcases((q7h hv1 hv2 hp hq).1 hm).1 with⟨h,_⟩|⟨h,_⟩
   ·exact h1.2 h
   ·exact h2.2 h
def k6g (U:List Und) (i:Nat):Int:=if i=0 then 0 else(U.getD (i-1) (0,[])).1
def yAt (L:List (List Int)) (U:List Und) (i:Nat):List (List Int):=(U.take i).foldl (fun y u=>q2r y u.1 65536) L
structure u0b (N g:Int) (fz:List Int) (X:List (List Int)) (u:Und):Prop where
 v1:1≤u.1
 v2:u.1≤N
 len:((q2r X u.1 65536).length:Int)≤65536
 grow:((q2r X u.1 65536).length:Int)≤(X.length:Int)+g
 eq:u=(u.1,uOf X u.1)
 ne:u.2.length≠0
 has:∀l∈u.2,z0i u.1 l=true
 fr:fz.contains u.1=false
 chk:q3x N X=0
 good:Good N X
 sm:X.length≤10000
structure Gone (N g:Int) (fz:List Int) (L X:List (List Int)) (U:List Und) (k:Nat):Prop where
 inc:∀i,i<U.length→k6g U i<(U.getD i (0,[])).1
 top:∀u∈U,u.1≤k
 out:∀u∈U,∀l∈X,z0i u.1 l=false
 len:(X.length:Int)≤(L.length:Int)+g*(U.length:Int)
 chk:q3x N X=0
 good:Good N X
 same:U.length=0→X=L
 step:∀i,i<U.length→u0b N g fz (yAt L U i) (U.getD i (0,[]))
 last:yAt L U U.length=X
 num:U.length≤k
theorem z2u {α:Type} {l:List α} {x d:α} {i:Nat} (h:i<(l++[x]).length):(l++[x]).getD i d=if i<l.length then l.getD i d else x:=by
 rw[Qa3,Qa8,Qb5]at h
 split
 ·rename_i h1
  rw[Qa1,Qa1,Qe3 h1]
 ·rename_i h1
  have:i=l.length:=by omega
  subst this
  simp
theorem x7y {u:Und} {i:Nat} (h:i≤U.length):yAt L (U++[u]) i=yAt L U i:=by
 unfold yAt;rw[Qo5 h]
theorem k8i {i:Nat} (h:i<U.length):yAt L U (i+1)=q2r (yAt L U i) (U.getD i (0,[])).1 65536:=by
 unfold yAt;rw[q6h (d:=(0,[])) h,Qn6];rfl
theorem gone (hN0:0≤N) (hN:N≤30) (hL:Good N L) (hl:L.length≤61) (hg0:0≤g) (hg:g≤40):∀k:Nat,(k:Int)≤N→Gone N g fz L (q2o L fz g k).1 (q2o L fz g k).2 k
 |0,_=>by
  refine⟨?_,?_,?_,?_,?_,hL,fun _=>rfl,?_,rfl,Qc1 _⟩
  ·intro i hi;simp[q2o]at hi
  ·intro u hu;simp[q2o]at hu
  ·intro u hu;simp[q2o]at hu
  ·simp[q2o]
  ·exact k7o hN0 hN hL (by show L.length≤_;omega)
  ·intro i hi;simp[q2o]at hi
 |k+1,hk=>by
  have ih:=gone hN0 hN hL hl hg0 hg k (by omega)
  have hb:=(y9y (fz:=fz) (g:=g) hN hL hl hg0 hg k (by omega)).2.1
  rw[q7q]
  rcases z3p fz g (q2o L fz g k) ((k:Int)+1)with e|⟨hfz,hany,ha,hb2,e⟩
  ·rw[e]
   exact⟨ih.inc,fun u hu=>by have:=ih.top u hu;omega,ih.out,ih.len,ih.chk,ih.good,ih.same,ih.step,ih.last,by have:=ih.num;omega⟩
  ·rw[e]
   generalize hX:(q2o L fz g k).1=X at*
   generalize hU:(q2o L fz g k).2=U at*
   have hlast:k6g (U++[((k:Int)+1,uOf X ((k:Int)+1))]) U.length<(k:Int)+1:=by
    unfold k6g
    split
    ·omega
    ·rename_i h0
     rw[z2u (by rw[Qa3];omega),if_pos (by omega)]
     have:=ih.top _ (q0t (d:=(0,[])) (show U.length-1<U.length by omega))
     omega
   have hst:u0b N g fz X ((k:Int)+1,uOf X ((k:Int)+1)):=by
    refine⟨by show(1:Int)≤(k:Int)+1;omega,by show(k:Int)+1≤N;omega,ha,hb2,rfl,?_,fun l hl=>(List.mem_filter.1 hl).2,hfz,ih.chk,ih.good,by omega⟩
    obtain⟨l,hl,hh⟩:=List.any_eq_true.1 hany
    have:l∈uOf X ((k:Int)+1):=List.mem_filter.2 ⟨hl,hh⟩
    exact fun h0=>by rw[show uOf X ((k:Int)+1)=[]from Qc8 h0]at this;cases this
   refine⟨?_,?_,?_,?_,?_,x1l hN (by omega) (by omega) ih.good,?_,?_,?_,?_⟩
   ·intro i hi
    rw[z2u hi]
    split
    ·rename_i h1
     have:=ih.inc i h1
     unfold k6g at this⊢
     split
     ·rename_i h0;rw[if_pos h0]at this;exact this
     ·rename_i h0;rw[if_neg h0]at this;rw[z2u (by rw[Qa3];omega),if_pos (by omega)];exact this
    ·rename_i h1
     have:i=U.length:=by rw[Qa3]at hi;simp at hi;omega
     subst this
     exact hlast
   ·intro u hu
    rcases List.mem_append.1 hu with h|h
    ·have:=ih.top u h;omega
    ·rw[Qe0]at h;subst h;show(k:Int)+1≤((k+1:Nat):Int);omega
   ·intro u hu
    rcases List.mem_append.1 hu with h|h
    ·exact k5k (by omega) (by omega) ha (ih.out u h)
    ·rw[Qe0]at h;subst h;exact k5x (by omega) (by omega) ha
   ·show((q2r X ((k:Int)+1) 65536).length:Int)≤(L.length:Int)+g*((U++[_]).length:Int)
    rw[Qa3]
    have h1:=ih.len
    have:g*((U.length+[((k:Int)+1,uOf X ((k:Int)+1))].length:Nat):Int)=g*(U.length:Int)+g:=by
     simp[Int.mul_add]
    rw[this]
    omega
   ·exact y3h ih.chk (by omega) (by omega) ha
   ·intro h0;rw[Qa3]at h0;simp at h0
   ·intro i hi
    have hi':=hi
    rw[Qa3]at hi'
    simp only[Qa8,Qb5]at hi'
    rw[x7y (by omega),z2u hi]
    split
    ·rename_i h1;exact ih.step i h1
    ·have:i=U.length:=by omega
     subst this
     rw[ih.last]
     exact hst
   ·have hl1:(U++[((k:Int)+1,uOf X ((k:Int)+1))]).length=U.length+1:=by simp
    rw[hl1,k8i (by rw[hl1];omega),x7y (Qb8 _),ih.last,z2u (by rw[hl1];omega),if_neg (by omega)]
   ·have:=ih.num
    simp
    omega
structure v2l (N:Int) (L X:List (List Int)) (U:List Und) (a:List Bool):Prop where
 fwd:j2s N L a=true→j2s N X a=true
 bwd:j2s N X a=true→j2s N L (q3h U a)=true
 len:(q3h U a).length=a.length
 oth:∀j:Nat,(∀u∈U,u.1.toNat≠j)→(q3h U a).getD j false=a.getD j false
theorem j5j {u:Und}:q3h (U++[u]) a=q3h U (q2c a u):=by
 unfold q3h;rw[List.reverse_append];rfl
theorem k6b (hv1:1≤v) (hv2:v≤N) (hN:N≤65536) (ha:(a.length:Int)=N+1) {ls:List (List Int)}:∃b,q2c a (v,ls)=a.set v.toNat b:=by
 refine⟨ls.any fun l=> !(holdsV (a.set v.toNat false) l),?_⟩
 unfold q2c
 rw[if_neg (by show¬(v<1∨65536<v);omega)]
 unfold u1t u6n
 rw[if_neg (by show¬(v+1-(a.length:Int)>0);omega)]
 simp
theorem k4t:q3h [(v,uOf X v)] a=q2c a (v,uOf X v):=rfl
theorem v0d (hN0:0≤N) (hN:N≤30) (hL:Good N L) (hl:L.length≤61) (hg0:0≤g) (hg:g≤40):∀k:Nat,(k:Int)≤N→∀a:List Bool,(a.length:Int)=N+1→v2l N L (q2o L fz g k).1 (q2o L fz g k).2 a
 |0,_,a,_=>⟨id,id,rfl,fun _ _=>rfl⟩
 |k+1,hk,a,ha=>by
  have hG:=gone (fz:=fz) hN0 hN hL hl hg0 hg k (by omega)
  rw[q7q]
  rcases z3p fz g (q2o L fz g k) ((k:Int)+1)with e|⟨hfz,hany,hb1,hb2,e⟩
  ·rw[e];exact v0d hN0 hN hL hl hg0 hg k (by omega) a ha
  ·have ih1:=v0d hN0 hN hL hl hg0 hg k (by omega) a ha
   rw[e]
   have hv1:1≤(k:Int)+1:=by omega
   obtain⟨b,hbs⟩:=k6b (ls:=uOf (q2o L fz g k).1 ((k:Int)+1)) hv1 hk (by omega) ha
   have ha':((q2c a ((k:Int)+1,uOf (q2o L fz g k).1 ((k:Int)+1))).length:Int)=N+1:=by rw[hbs,Qb6];exact ha
   have ih2:=v0d hN0 hN hL hl hg0 hg k (by omega) _ ha'
   refine⟨fun h=>?_,fun h=>?_,?_,fun j hj=>?_⟩
   ·rw[k6t ha hG.chk hv1 hk hb1,ih1.fwd h];rfl
   ·rw[j5j]
    have:=k4r ha hG.chk hv1 hk hb1 h
    rw[k4t]at this
    exact ih2.bwd this
   ·rw[j5j,ih2.len,hbs,Qb6]
   ·rw[j5j,ih2.oth j fun u hu=>hj u (Qd7 _ hu),hbs]
    have:=hj ((k:Int)+1,uOf (q2o L fz g k).1 ((k:Int)+1)) (Qe9 _ Qb4)
    rw[Qa1,List.getElem?_set_ne this,←Qa1]
end Go.Proofs.YteikjpbbhopkaaaGreatDoor.Cn
namespace Go.Proofs.YteikjpbbhopkaaaGreatDoor.Cn
open Go
variable {N M g v:Int} {X Y L:List (List Int)} {fz:List Int} {U:List Und} {k i j:Nat} {a:List Bool} {u:Und}
theorem v0l (hN:N≤30) (hl:L.length≤61) (hs:∀l∈L,l.length≤100) (hg:g≤40∨1099511627776<g):
 ((elX N L fz g).length≤maxLen∧∀l∈elX N L fz g,l.length≤maxLen)∧((elU N L fz g).length≤maxLen∧∀w∈elU N L fz g,w.2.length≤maxLen∧∀l∈w.2,l.length≤maxLen):=by
 by_cases he:elE N L fz g=0
 ·obtain⟨hc0,hg0,hg1,_⟩:=x1a he
  obtain⟨_,h2,h3,_⟩:=k2j he
  have hN0:=(q6b.1 hc0).1.1
  obtain⟨h4,h5,h6,h7⟩:=y9y (fz:=fz) hN (j6a hc0 hs) hl hg0 (by omega) N.toNat (by omega)
  rw[h2,h3]
  unfold maxLen
  exact⟨⟨by omega,fun l hl=>by have:=(h4 l hl).2;omega⟩,by omega,fun w hw=>⟨by have:=(h7 w hw).1;omega,fun l hl=>by have:=(h7 w hw).2 l hl;omega⟩⟩
 ·obtain⟨_,h2,h3,_⟩:=u5q rfl he
  rw[h2,h3]
  exact⟨⟨Qc1 _,fun l hl=>by cases hl⟩,Qc1 _,fun l hl=>by cases hl⟩
theorem u1s (hN:N≤30) (hl:L.length≤61) (hs:∀l∈L,l.length≤100) (hg:g≤40) (he:elE N L fz g=0):Gone N g fz L (elX N L fz g) (elU N L fz g) N.toNat:=by
 obtain⟨hc0,hg0,hg1,_⟩:=x1a he
 obtain⟨_,h2,h3,_⟩:=k2j he
 have hN0:=(q6b.1 hc0).1.1
 rw[h2,h3]
 exact gone hN0 hN (j6a hc0 hs) hl hg0 hg N.toNat (by omega)
theorem k1x (hN:N≤30) (hl:L.length≤61) (hs:∀l∈L,l.length≤100) (hg:g≤40) (he:elE N L fz g=0) (a:List Bool) (ha:(a.length:Int)=N+1):v2l N L (elX N L fz g) (elU N L fz g) a:=by
 obtain⟨hc0,hg0,hg1,_⟩:=x1a he
 obtain⟨_,h2,h3,_⟩:=k2j he
 have hN0:=(q6b.1 hc0).1.1
 rw[h2,h3]
 exact v0d hN0 hN (j6a hc0 hs) hl hg0 hg N.toNat (by omega) a ha
end Go.Proofs.YteikjpbbhopkaaaGreatDoor.Cn
namespace Go.Proofs.YteikjpbbhopkaaaGreatDoor.Gt
open Go En Fl
open Cn (q3e q8i Agr)
variable {n q v k g:Int} {l:List Tree} {j m:Nat}
def clR (n:Int) (t:Tree):List (List Int)×Int×Int:=Cn.q1q (gatesR (n+1) t).2.1 (gatesR (n+1) t).2.2.1
def frL (j:Nat):List Int:=(List.range j).map fun i:Nat=>(i:Int)+1
theorem fr_next:frL j++[((j:Int)+1)]=frL (j+1):=by unfold frL;rw[Qe8,Qd4];rfl
theorem fr_len:(frL j).length=j:=by unfold frL;rw[Qa9,Qg4]
theorem u8l {v:Int} (h1:1≤v) (h2:v≤j):v∈frL j:=by
 unfold frL
 exact List.mem_map.2 ⟨(v-1).toNat,List.mem_range.2 (by omega),by omega⟩
def clL (n:Int) (t:Tree):List (List Int):=(clR n t).1++[[(gatesR (n+1) t).1]]
theorem gl_guard {w:Int} (h:((((decide (n<0)||decide (n>4))||decide (w>12))||decide (g<0))||decide (g>20))=false):0≤n∧n≤4∧0≤g∧g≤20:=by
 simp only[Qc5,decide_eq_false_iff_not]at h
 omega
theorem gl_err1 {t:Tree} {nx:Int} (h:(gatesR nx t).2.2.2≠0):(gatesR nx t).1=0:=by
 by_cases h2:(madeR nx t).2.2.2≠0
 ·rw[ga_no h2]
 ·rw[ga_yes (Decidable.not_not.1 h2)]at h;exact absurd rfl h
theorem x6l {t:Tree} {nx:Int} (h:(gatesR nx t).2.2.2=0):1≤nx∧nx+(cntT t:Nat)≤65537∧fitT (nx-1) t∧gatesR nx t=((gateT t nx []).1,(gateT t nx []).2.2,(gateT t nx []).2.1,0):=by
 by_cases hm:(madeR nx t).2.2.2≠0
 ·rw[ga_no hm]at h;exact absurd h hm
 ·obtain⟨h1,h2,h3,h4,h5,h6⟩:=u9e (Decidable.not_not.1 hm)
  refine⟨h1,h5,?_,?_⟩
  ·have:=(v2q h3).2.2
   rw[eta]at this
   exact u5v t this h4
  ·rw[ga_yes (Decidable.not_not.1 hm),h6];rfl
theorem x0a {t:Tree} {nx:Int} (h:(gatesR nx t).2.2.2=0):(∀x∈(gatesR nx t).2.1,GC (gatesR nx t).2.2.1 x)∧(gatesR nx t).2.2.1=nx+(cntT t:Nat)∧(gatesR nx t).2.2.1≤65537∧k2g (gatesR nx t).2.2.1 (gatesR nx t).1∧1≤nx:=by
 obtain⟨h1,h2,h3,h4⟩:=x6l h
 have hn:=j1t t nx []
 have hg:=v0r t nx [] h3 h1 (by omega) fun x hx=>by cases hx
 have hl:=u8z t nx [] h3 h1 (by omega)
 rw[h4]
 rw[←hn]at hg hl
 exact⟨hg,hn,by show(gateT t nx []).2.1≤65537;omega,hl,h1⟩
theorem gl_nt {t:Tree} {nx:Int} (h:(gatesR nx t).2.2.2=0):(gatesR nx t).2.1.length≤200000∧(-9223372036854775808≤(gatesR nx t).2.2.1∧(gatesR nx t).2.2.1≤9223372036854775807)∧Cn.k4e (gatesR nx t).2.1:=by
 obtain⟨h1,h2,h3,h4⟩:=x6l h
 obtain⟨c1,c2,c3,c4,c5⟩:=x0a h
 have hc:=k9s t nx []
 refine⟨?_,by omega,fun x hx m hm=>u4d (c1 x hx) hm⟩
 rw[h4]
 show(gateT t nx []).2.2.length≤200000
 simp only[Qb5]at hc
 omega
theorem gl_err2 {l:List q7z} {nx:Int} (h:(Cn.q1q l nx).2.2≠0):(Cn.q1q l nx).1=[]:=Cn.k6i h
theorem u0j {t:Tree} {nx:Int} (h:(gatesR nx t).2.2.2=0):∀x∈(gatesR nx t).2.1,q0o ⟨x.1,x.2.1,x.2.2⟩ ((gatesR nx t).2.2.1-1)=0:=by
 obtain⟨c1,c2,c3,c4,c5⟩:=x0a h
 exact fun x hx=>u8g (c1 x hx) c3
theorem gl_ok {t:Tree} (hn:0≤n∧n≤4) (h:(gatesR (n+1) t).2.2.2=0) (h2:(clR n t).2.2=0) (h3:(clR n t).2.1≤13) (h4:(clR n t).1.length≤60):
 (n+1≤(clR n t).2.1)∧(clL n t).length≤61∧(∀c∈clL n t,c.length≤100)∧Cn.q3x ((clR n t).2.1-1) (clL n t)=0:=by
 obtain⟨c1,c2,c3,c4,c5⟩:=x0a h
 have hnt:=(gl_nt h).2.2
 have hck:=u0j h
 obtain⟨f1,f2,f3,f4⟩:=Cn.x1m hnt h2 hck
 have f1:(gatesR (n+1) t).2.2.1≤(clR n t).2.1:=f1
 have hlen:=Cn.k1m hnt (show(gatesR (n+1) t).2.2.1≤100 by omega) h2 hck
 have h0:n+1≤(clR n t).2.1:=by omega
 refine⟨h0,by unfold clL;rw[Qa3];simp only[Qa8,Qb5];omega,fun c hc=>?_,Cn.q6b.2 ⟨by omega,fun c hc x hx=>?_,by unfold clL;rw[Qa3];simp only[Qa8,Qb5];omega⟩⟩
 ·rcases List.mem_append.1 hc with hc|hc
  ·exact hlen c hc
  ·rw[List.mem_singleton.1 hc];show 1≤100;decide
 ·rw[Cn.q5f]
  rcases List.mem_append.1 hc with hc|hc
  ·have h9:q8i (clR n t).2.1 x:=f2 c hc x hx
   have:=h9.1;have:=h9.2;omega
  ·rw[List.mem_singleton.1 hc]at hx
   rw[List.mem_singleton.1 hx]
   obtain⟨a,b,d⟩:=c4
   omega
theorem gl_sm {a:Int} {b:Nat} (h:(decide (a>13)||decide ((b:Int)>60))=false):a≤13∧b≤60:=by
 simp only[Qc5,decide_eq_false_iff_not]at h
 omega
theorem gl_n {N:Int} {L:List (List Int)} {fz:List Int} (h:Cn.elE N L fz g=0):Cn.elN N L fz g=N:=(Cn.k2j h).1
theorem gl_xb {N:Int} {L:List (List Int)} {fz:List Int} (hN:N≤30) (hl:L.length≤61) (hs:∀l∈L,l.length≤100) (hg:g≤40) (he:Cn.elE N L fz g=0):
 (Cn.elX N L fz g).length≤maxLen∧∀l∈Cn.elX N L fz g,l.length≤maxLen:=(Cn.v0l (fz:=fz) hN hl hs (.inl hg)).1
theorem gl_dead {N:Int} {L:List (List Int)} {fz:List Int} (h:Cn.elE N L fz g=0) (h2:Cn.elN N L fz g=N) (h3:((Cn.elE N L fz g !=0)||(Cn.elN N L fz g !=N))=true):False:=by
 rw[h,h2]at h3;simp at h3
theorem gl_dead2 {a b:Bool} (h:a=b) (h2:(!(a==b))=true):False:=by
 subst h;cases a<;>cases h2
theorem gl_el {t:Tree} {N:Int} (hn:0≤n∧n≤4) (hN:n≤N) (hc:Cn.q3x N (clL n t)=0) (hg:0≤g∧g≤20):Cn.elE N (clL n t) (frL n.toNat) g=0:=by
 refine Cn.v2c hc ?_
 rw[Qc5,Qc5]
 refine⟨⟨decide_eq_false (by omega),decide_eq_false (by omega)⟩,List.any_eq_false.2 fun v hv=>?_⟩
 unfold frL at hv
 obtain⟨i,hi,rfl⟩:=List.mem_map.1 hv
 have:=List.mem_range.1 hi
 unfold Cn.j3i
 rw[Qm8,Qc5]
 exact⟨decide_eq_false (by omega),decide_eq_false (by omega)⟩
theorem and1 {a:Int} (h0:0≤a):x6y a 1=a%2:=by
 obtain⟨n,rfl⟩:=Qi4 h0
 have e:(BitVec.ofInt 64 (n:Int)&&&BitVec.ofInt 64 1).toNat=n%2:=by
  rw[BitVec.toNat_and,BitVec.toNat_ofInt,BitVec.toNat_ofInt]
  have h1:((n:Int)%((2^64:Nat):Int)).toNat=n%2^64:=by omega
  have h2:((1:Int)%((2^64:Nat):Int)).toNat=1:=by decide
  rw[h1,h2,Qp7]
  omega
 unfold x6y
 rw[e,z7p (k:=.i64) (show inK .i64 ((n%2:Nat):Int)from⟨by omega,by omega⟩)]
 omega
theorem v3l (n k:Nat):(x6y ((n:Int)/2^k) 1==1)=n.testBit k:=by
 have e:((n:Int)/2^k)=((n/2^k:Nat):Int):=by push_cast;rfl
 rw[e,and1 (Ql2 _)]
 show((((n/2^k:Nat):Int)%2:Int)==1)=n.testBit k
 rw[Qh8]
 rw[Qh3]
 simp
 omega
theorem x8i:∀tl:List Bool,∃m,m<2^tl.length∧(List.range tl.length).map (fun i=>Nat.testBit m i)=tl
 |[]=>⟨0,by simp,rfl⟩
 |b::tl=>by
  obtain⟨m,h1,h2⟩:=x8i tl
  refine⟨2*m+b.toNat,?_,?_⟩
  ·rw[Qa8,Qo1]
   cases b<;>simp<;>omega
  ·rw[Qa8,List.range_succ_eq_map,Qc6,Ql8]
   have e0:(2*m+b.toNat).testBit 0=b:=by
    rw[Qm7]
    cases b<;>simp<;>omega
   have e1:(fun i=>Nat.testBit (2*m+b.toNat) i) ∘ Nat.succ=fun i=>Nat.testBit m i:=by
    funext i
    show Nat.testBit (2*m+b.toNat) (i+1)=_
    rw[Qe4]
    congr 1
    cases b<;>simp<;>omega
   rw[e0,e1,h2]
theorem u8i (a tl:List Bool):∃m:Nat,m<2^tl.length∧z8g a (m:Int) tl.length=a++tl:=by
 obtain⟨m,h1,h2⟩:=x8i tl
 refine⟨m,h1,?_⟩
 unfold z8g
 congr 1
 rw[←h2]
 simp only[Qa9,Qg4]
 exact Qn0 fun i _=>v3l m i
theorem y5k {b:List Bool} (hb:(b.length:Int)≤65537) {c:List Int} (hc:∀x∈c,q8i (b.length:Int) x):Cn.holdsV b c=c.any (q3e fun i=>b.getD i false):=by
 have e1:Cn.holdsV b c=c.any (q1u b):=by
  unfold Cn.holdsV
  congr 1
  funext x;exact Cn.y7v b x
 rw[e1,Cn.y1j rfl hb hc]
theorem x1n {F:Nat→Bool} {x:q7z} {m:Int} (h:q0o ⟨x.1,x.2.1,x.2.2⟩ m=0):Cn.x3i F x.1 x.2.1 x.2.2=true↔x.2.2≤q1n (q3e F) (x.1.zip x.2.1):=by
 obtain⟨_,_,q3,_,_,q6,_⟩:=q1l h
 have e:q0j ⟨x.1,x.2.1,x.2.2⟩=q6g ⟨x.1,x.2.1,x.2.2⟩:=if_pos (Cn.q6u h)
 have h1:=z3e (q3e F) ⟨x.1,x.2.1,x.2.2⟩ q3 (fun y hy=>(q6 y hy).1) (fun y hy=>Cn.j6y F y hy)
 have h2:Cn.x3i F x.1 x.2.1 x.2.2=z9p (q3e F) (q6g ⟨x.1,x.2.1,x.2.2⟩):=by rw[←e];rfl
 rw[h2,h1]
 unfold z9p
 rw[decide_eq_true_eq]
theorem gl_fin {a:List Bool} (hn:0≤n∧n≤4) (hg:0≤g∧g≤20) (h:(gatesR (n+1) (.node q v k l)).2.2.2=0) (h2:(clR n (.node q v k l)).2.2=0) (h3:(clR n (.node q v k l)).2.1≤13) (h4:(clR n (.node q v k l)).1.length≤60) (ha:(a.length:Int)=n+1):
 u5z ((clR n (.node q v k l)).2.1-1) (Cn.elX ((clR n (.node q v k l)).2.1-1) (clL n (.node q v k l)) (frL n.toNat) g) a=z1p a q v k l:=by
 have hvT:z1p a q v k l=q3l a (.node q v k l):=j8j a (.node q v k l)
 rw[hvT]
 generalize Tree.node q v k l=t at*
 clear hvT
 obtain⟨k1,k2,k3,k4⟩:=gl_ok hn h h2 h3 h4
 obtain⟨g1,g2,g3,g4⟩:=x6l h
 obtain⟨c1,c2,c3,c4,c5⟩:=x0a h
 have hnt:=(gl_nt h).2.2
 have hck:=u0j h
 obtain⟨f1,f2,f3,f4⟩:=Cn.x1m hnt h2 hck
 rw[Int.add_sub_cancel]at g3
 obtain⟨s1,s2,s3⟩:=u8v (n:=n) (q2a t+1) t (Qk9 _) (n+1) [] g3 (by omega) (by omega) fun x hx=>by cases hx
 have hL2:(gatesR (n+1) t).2.1=(gateT t (n+1) []).2.2:=by rw[g4]
 have hL1:(gatesR (n+1) t).1=(gateT t (n+1) []).1:=by rw[g4]
 have hall:∀F:Nat→Bool,(∀x∈(gatesR (n+1) t).2.1,Cn.x3i F x.1 x.2.1 x.2.2=true)↔Sat F (gateT t (n+1) []).2.2:=fun F=>by
  rw[←hL2]
  exact⟨fun hx x hxm=>(x1n (hck x hxm)).1 (hx x hxm),fun hx x hxm=>(x1n (hck x hxm)).2 (hx x hxm)⟩
 obtain⟨N,hN⟩:∃N:Int,N=(clR n t).2.1-1:=⟨_,rfl⟩
 have hlast:(clR n t).2.1=N+1:=by omega
 rw[←hN]at k4⊢
 have he:=gl_el (g:=g) (N:=N) hn (by omega) k4 hg
 have hG:=Cn.u1s (fz:=frL n.toNat) (g:=g) (show N≤30 by omega) k2 k3 (by omega) he
 have f2':∀c∈(clR n t).1,∀x∈c,q8i (N+1) x:=fun c hc x hx=>by rw[←hlast];exact f2 c hc x hx
 have f1':(gatesR (n+1) t).2.2.1≤N+1:=by rw[←hlast];exact f1
 have hlitB:q8i (N+1) (gatesR (n+1) t).1:=⟨c4.1,by have:=c4.2;omega⟩
 have hval:∀b:List Bool,(b.length:Int)=N+1→(Cn.j2s N (clL n t) b=true↔(∀c∈(clR n t).1,c.any (q3e fun i=>b.getD i false)=true)∧q3e (fun i=>b.getD i false) (gatesR (n+1) t).1=true):=fun b hb=>by
  unfold Cn.j2s
  rw[k4,Qa2,Qh1]
  have hcl:∀c∈clL n t,∀x∈c,q8i (b.length:Int) x:=fun c hc x hx=>by
   rw[hb]
   rcases List.mem_append.1 hc with hc|hc
   ·exact f2' c hc x hx
   ·rw[List.mem_singleton.1 hc]at hx
    rw[List.mem_singleton.1 hx];exact hlitB
  constructor
  ·rintro⟨_,hs⟩
   refine⟨fun c hc=>?_,?_⟩
   ·have:=hs c (Qd7 _ hc)
    rwa [y5k (by omega) (hcl c (Qd7 _ hc))]at this
   ·have:=hs [(gatesR (n+1) t).1] (Qe9 _ (List.mem_singleton.2 rfl))
    rw[y5k (by omega) (hcl _ (Qe9 _ (List.mem_singleton.2 rfl)))]at this
    simpa using this
  ·rintro⟨hs,hl⟩
   refine⟨rfl,fun c hc=>?_⟩
   rw[y5k (by omega) (hcl c hc)]
   rcases List.mem_append.1 hc with hc|hc
   ·exact hs c hc
   ·rw[List.mem_singleton.1 hc];simpa using hl
 have hdl:(z9h N a:Int)=N+1-(n+1):=by unfold z9h;omega
 rw[Qh3]
 constructor
 ·intro hcan
  obtain⟨m,_,hv⟩:=List.any_eq_true.1 hcan
  generalize hbb:z8g a (m:Int) (z9h N a)=b at hv
  have hbl:(b.length:Int)=N+1:=by rw[←hbb,x0e];omega
  have hM:=Cn.k1x (fz:=frL n.toNat) (g:=g) (show N≤30 by omega) k2 k3 (by omega) he b hbl
  have hv2:=hM.bwd hv
  have hb2:((Cn.q3h (Cn.elU N (clL n t) (frL n.toNat) g) b).length:Int)=N+1:=by rw[hM.len];exact hbl
  have hoth:∀i:Nat,1≤i→(i:Int)≤n→(Cn.q3h (Cn.elU N (clL n t) (frL n.toNat) g) b).getD i false=a.getD i false:=fun i h1 hi=>by
   rw[hM.oth i fun u hu e=>?_]
   ·rw[←hbb]
    unfold z8g
    rw[Qa1,Qe3 (by omega),←Qa1]
   ·obtain⟨j,hj,rfl⟩:=List.mem_iff_getElem.1 hu
    have hst:=hG.step j hj
    have e2:(Cn.elU N (clL n t) (frL n.toNat) g).getD j (0,[])=(Cn.elU N (clL n t) (frL n.toNat) g)[j]:=by rw[Qa1,Qa0 hj];rfl
    have hfr:=hst.fr
    have hv1:=hst.v1
    rw[e2]at hfr hv1
    rw[Bool.eq_false_iff]at hfr
    exact hfr (List.contains_iff_mem.2 (u8l hv1 (by omega)))
  generalize Cn.q3h (Cn.elU N (clL n t) (frL n.toNat) g) b=b2 at hv2 hb2 hoth
  obtain⟨d1,d2⟩:=(hval b2 hb2).1 hv2
  have d3:=(hall _).1 (f4 _ d1)
  rw[hL1]at d2
  rw[←s3 _ a ha (fun i h1 hi=>hoth i h1 hi) d3]
  exact d2
 ·intro hv
  obtain⟨F1,a1,a2⟩:=s2 (fun i=>a.getD i false) fun x hx=>by cases hx
  have a3:=s3 F1 a ha (fun i _ hi=>a1 i (by omega)) a2
  obtain⟨F,b1,b2⟩:=f3 F1 ((hall F1).2 a2)
  have hlitF:q3e F (gatesR (n+1) t).1=true:=by
   rw[Cn.z1h b1 ⟨c4.1,by have:=c4.2;omega⟩,hL1,a3];exact hv
  obtain⟨tl,htl⟩:∃tl:List Bool,tl=(List.range (z9h N a)).map fun i=>F (a.length+i):=⟨_,rfl⟩
  have htll:tl.length=z9h N a:=by rw[htl,Qa9,Qg4]
  obtain⟨m,m1,m2⟩:=u8i a tl
  rw[htll]at m1 m2
  refine List.any_eq_true.2 ⟨m,List.mem_range.2 m1,?_⟩
  rw[m2]
  have hbl:((a++tl).length:Int)=N+1:=by rw[Qa3,htll];omega
  have hM:=Cn.k1x (fz:=frL n.toNat) (g:=g) (show N≤30 by omega) k2 k3 (by omega) he (a++tl) hbl
  refine hM.fwd ((hval _ hbl).2 ?_)
  have hget:Agr (N+1) (fun i=>(a++tl).getD i false) F:=fun i hi=>by
   show(a++tl).getD i false=F i
   by_cases hia:i<a.length
   ·rw[Qa1,Qe3 hia,←Qa1]
    rw[b1 i (by omega),a1 i (by omega)]
   ·rw[Qa1,Qe5 (by omega),htl,Qg6,List.getElem?_range (by omega)]
    show F (a.length+(i-a.length))=F i
    rw[show a.length+(i-a.length)=i by omega]
  refine⟨fun c hc=>?_,?_⟩
  ·rw[Cn.x0u hget (f2' c hc)];exact b2 c hc
  ·rw[Cn.z1h hget hlitB];exact hlitF
end Go.Proofs.YteikjpbbhopkaaaGreatDoor.Gt
