/-Lemmas and contracts for the row. -/
import Derived.Test.YteikjpbbhopkaaaGreatDoorPkRowElimGatesB
import Derived.Lib.RowBridge
set_option linter.unusedVariables false
set_option linter.unusedSimpArgs false
set_option linter.unnecessarySimpa false
namespace Go.Proofs.YteikjpbbhopkaaaGreatDoor.Cn
open Go
def ahd (x y:Int):Bool:=decide (x.natAbs<y.natAbs∨x.natAbs=y.natAbs∧y<x)
def q2w (xs:List Int):List Int:=xs.mergeSort fun x y=> !ahd y x
def q5t (l:List Int):List Int:=Lib.compact (q2w (l.filter fun x=>q2q x 65536))
def q8f (l:List Int):Bool:=(q5t l).any fun x=>(q5t l).contains (-x)
theorem q7v {x y:Int}:ahd x y=true↔(x.natAbs<y.natAbs∨x.natAbs=y.natAbs∧y<x):=by simp[ahd]
theorem j8h {x y:Int}:(!ahd y x)=true↔x=y∨ahd x y=true:=by
 rw[q7v];simp[ahd];omega
theorem y4y {x:Int}:¬ahd x x=true:=by rw[q7v];omega
theorem k9g {x y z:Int} (h:ahd x y=true) (h':ahd y z=true):ahd x z=true:=by
 rw[q7v]at*;omega
theorem u2s {x y:Int}:ahd x y=true∨x=y∨ahd y x=true:=by
 rw[q7v,q7v];omega
abbrev Str (xs:List Int):Prop:=xs.Pairwise fun x y=>ahd x y=true
theorem x9a:∀{a b:List Int},Str a→Str b→(∀x,x∈a↔x∈b)→a=b
 |[],[],_,_,_=>rfl
 |[],y::b,_,_,h=>by have:=(h y).2 Qb4;cases this
 |x::a,[],_,_,h=>by have:=(h x).1 Qb4;cases this
 |x::a,y::b,ha,hb,h=>by
  obtain⟨ha1,ha2⟩:=List.pairwise_cons.1 ha
  obtain⟨hb1,hb2⟩:=List.pairwise_cons.1 hb
  have hxy:x=y:=by
   rcases List.mem_cons.1 ((h x).1 Qb4)with e|hx
   ·exact e
   rcases List.mem_cons.1 ((h y).2 Qb4)with e|hy
   ·exact e.symm
   exact absurd (k9g (ha1 y hy) (hb1 x hx)) y4y
  subst hxy
  refine congrArg (x:: ·) (x9a ha2 hb2 fun z=>?_)
  have:=h z
  simp only[Qf1]at this
  constructor
  ·intro hz
   rcases this.1 (.inr hz)with e|h1
   ·subst e;exact absurd (ha1 _ hz) y4y
   ·exact h1
  ·intro hz
   rcases this.2 (.inr hz)with e|h1
   ·subst e;exact absurd (hb1 _ hz) y4y
   ·exact h1
theorem z8y (xs:List Int) (hs:xs.Pairwise fun x y=>(!ahd y x)=true):(∀x,x∈Lib.compact xs↔x∈xs)∧Str (Lib.compact xs):=by
 have key:∀m,m≤xs.length→(∀x,x∈Lib.compactUpTo xs.toArray m↔x∈xs.take m)∧Str (Lib.compactUpTo xs.toArray m):=by
  intro m
  induction m with
  |zero=>intro _;simp[Lib.compactUpTo]
  |succ m ih=>
   intro hm
   obtain⟨h1,h2⟩:=ih (by omega)
   have hlt:m<xs.length:=by omega
   have eg:xs.toArray[m]! =xs[m]:=by rw[getElem!_pos xs.toArray m (by simpa using hlt)];simp
   rw[Lib.compactUpTo_succ,eg,Qb9 hlt]
   have hle:∀y∈xs.take m,(!ahd xs[m] y)=true:=by
    intro y hy
    obtain⟨j,hj,rfl⟩:=List.mem_iff_getElem.1 hy
    rw[Qd0]at hj
    rw[Qm0]
    exact List.pairwise_iff_getElem.1 hs j m (by omega) hlt (by omega)
   cases hk:Lib.keeps xs.toArray m with
   |true=>
    rw[if_pos rfl]
    refine⟨fun x=>by simp only[Qf4,h1 x],List.pairwise_append.2 ⟨h2,List.pairwise_singleton _ _,fun y hy z hz=>?_⟩⟩
    rw[Qe0]at hz
    subst hz
    have hy':=(h1 y).1 hy
    rcases j8h.1 (hle y hy')with e|h
    ·subst e
     exfalso
     simp only[Lib.keeps,decide_eq_true_eq]at hk
     rcases hk with h0|hne
     ·subst h0;simp at hy'
     ·by_cases hm0:m=0
      ·subst hm0;simp at hy'
      apply hne
      have e1:xs.toArray[m-1]! =xs[m-1]:=by rw[getElem!_pos xs.toArray (m-1) (by simp;omega)];simp
      rw[eg,e1]
      have hp:(!ahd xs[m] xs[m-1])=true:=List.pairwise_iff_getElem.1 hs (m-1) m (by omega) hlt (by omega)
      obtain⟨j,hj,hj2⟩:=List.mem_iff_getElem.1 hy'
      rw[Qd0]at hj
      rw[Qm0]at hj2
      rcases j8h.1 hp with e|h3
      ·exact e.symm
      ·by_cases hjm:j=m-1
       ·subst hjm;exact hj2.symm
       ·have h4:(!ahd xs[m-1] xs[j])=true:=List.pairwise_iff_getElem.1 hs j (m-1) (by omega) (by omega) (by omega)
        rw[hj2]at h4
        rw[h3]at h4
        exact absurd h4 (by decide)
    ·exact h
   |false=>
    rw[if_neg (by simp)]
    refine⟨fun x=>?_,by simpa using h2⟩
    simp only[Qf5,Qf4,Qe0,h1 x]
    constructor
    ·exact .inl
    ·rintro(h|rfl)
     ·exact h
     ·simp only[Lib.keeps,decide_eq_false_iff_not,not_or,Decidable.not_not]at hk
      obtain⟨hm0,he⟩:=hk
      have e1:xs.toArray[m-1]! =xs[m-1]:=by rw[getElem!_pos xs.toArray (m-1) (by simp;omega)];simp
      rw[eg,e1]at he
      rw[he]
      exact List.mem_iff_getElem.2 ⟨m-1,by rw[Qd0];omega,by rw[Qm0]⟩
 have:=key xs.length (Qb8 _)
 rw[Qd3]at this
 exact this
theorem y7u (xs:List Int):(q2w xs).Pairwise fun x y=>(!ahd y x)=true:=
 List.pairwise_mergeSort (fun a b c h1 h2=>by
  rw[j8h]at*
  rcases h1 with rfl|h1<;>rcases h2 with rfl|h2
  ·exact .inl rfl
  ·exact .inr h2
  ·exact .inr h1
  ·exact .inr (k9g h1 h2)) (fun a b=>by
  rw[Qd2,j8h,j8h]
  rcases u2s (x:=a) (y:=b)with h|h|h
  ·exact .inl (.inr h)
  ·exact .inl (.inl h)
  ·exact .inr (.inr h)) xs
theorem z0c {l:List Int} {x:Int}:x∈q5t l↔x∈l∧q2q x 65536=true:=by
 unfold q5t
 rw[(z8y _ (y7u _)).1 x,q2w,List.mem_mergeSort,Ql6]
theorem z6b (l:List Int):Str (q5t l):=(z8y _ (y7u _)).2
theorem u5n {l out:List Int} (h:Str out) (hm:∀x,x∈out↔x∈l∧q2q x 65536=true):q5t l=out:=
 x9a (z6b l) h fun x=>by rw[z0c,hm x]
theorem x7q {l:List Int} {x:Int} (h:x∈q5t l):x≠0:=(q5f.1 (z0c.1 h).2).1
theorem u2k {l:List Int} {j:Nat} (h:j<(q5t l).length): -65536≤(q5t l).getD j 0∧(q5t l).getD j 0≤65536:=(q5f.1 (z0c.1 (q0t (d:=0) h)).2).2
theorem y8x (l:List Int):(q5t l).length≤l.length:=by
 unfold q5t
 refine Qc0 (Lib.compact_length_le _) ?_
 rw[q2w,Ql4]
 exact Qd8 _ _
theorem x9q {xs:List Int} (h:Str xs) {i j:Nat} (hij:i<j) (hj:j<xs.length):ahd (xs.getD i 0) (xs.getD j 0)=true:=by
 have hi:i<xs.length:=by omega
 rw[Qa1,Qa1,Qa0 hj,Qa0 hi]
 exact List.pairwise_iff_getElem.1 h i j hi hj hij
theorem j8c {xs:List Int} {i:Nat} (h0:0<i) (hi:i<xs.length) (h:xs.getD (i-1) 0= -(xs.getD i 0)):(xs.any fun x=>xs.contains (-x))=true:=
 k0k (d:=0) hi (by rw[←h];exact List.contains_iff_mem.2 (q0t (by omega)))
theorem y5p {xs:List Int} (hs:Str xs) (hn:∀x∈xs,x≠0) (h:∀i,0<i→i<xs.length→xs.getD (i-1) 0≠-(xs.getD i 0)):(xs.any fun x=>xs.contains (-x))=false:=by
 rw[Qi8]
 intro x hx hc
 have hc:=List.contains_iff_mem.1 hc
 have key:∀z∈xs,-z∈xs→0<z→False:=by
  intro z hz hz' hp
  obtain⟨i,hi,rfl⟩:=List.mem_iff_getElem.1 hz
  obtain⟨j,hj,hjv⟩:=List.mem_iff_getElem.1 hz'
  have ei:xs.getD i 0=xs[i]:=by rw[Qa1,Qa0 hi];rfl
  have ej:xs.getD j 0=xs[j]:=by rw[Qa1,Qa0 hj];rfl
  have hlt:i<j:=by
   rcases Nat.lt_trichotomy i j with h1|h1|h1
   ·exact h1
   ·subst h1;omega
   ·have:=x9q hs h1 hi
    rw[ei,ej,q7v]at this
    omega
  by_cases hji:j=i+1
  ·subst hji
   refine h (i+1) (by omega) hj ?_
   rw[Nat.add_sub_cancel,ei,ej]
   omega
  ·have h1:=x9q hs (show i<i+1 by omega) (by omega)
   have h2:=x9q hs (show i+1<j by omega) hj
   rw[ei,q7v]at h1
   rw[ej,q7v]at h2
   omega
 have hx0:=hn x hx
 by_cases hp:0<x
 ·exact key x hx hc hp
 ·exact key (-x) hc (by rwa [Qq8]) (by omega)
theorem k8a {l:List Int}:q8f l=true↔∃x,x∈q5t l∧-x∈q5t l:=by
 unfold q8f
 rw[Qf7]
 constructor
 ·rintro⟨x,h1,h2⟩;exact⟨x,h1,List.contains_iff_mem.1 h2⟩
 ·rintro⟨x,h1,h2⟩;exact⟨x,h1,List.contains_iff_mem.2 h2⟩
def q5v (xss:List (List Int)):Nat:=(xss.map List.length).sum
theorem x8r (xss:List (List Int)):xss.flatten.length=q5v xss:=by simp[q5v,List.length_flatten]
theorem k1q (xss:List (List Int)) (i:Nat):q5v (xss.take i)≤q5v xss:=by
 induction xss generalizing i with
 |nil=>simp[q5v]
 |cons x t ih=>
  cases i with
  |zero=>simp[q5v]
  |succ i=>have:=ih i;simp only[q5v,Qj2,Qc6,Qq5]at this⊢;omega
theorem x8s {xss:List (List Int)} {k:Nat} (h:k<xss.length):q5v (xss.take (k+1))=q5v (xss.take k)+(xss.getD k []).length:=by
 rw[q6h (d:=[]) h];simp[q5v]
theorem x5w {xss:List (List Int)} {k:Nat} (h:k<xss.length):(xss.take k).flatten++xss.getD k []=(xss.take (k+1)).flatten:=by
 rw[q6h (d:=[]) h,List.flatten_append];simp
def x3u (a b:List Int) (x:Int):List Int:=q5t ((a.filter fun y=> !(y==x))++(b.filter fun y=> !(y== -x)))
def onB (a b:List Int) (x:Int):Bool:=a.contains x&&b.contains (-x)
def q3w (a b:List Int) (v:Int):List Int:=if 1≤v∧v≤65536 then if onB a b v then x3u a b v else if onB a b (-v)then x3u a b (-v)else[]else[]
def x8j (a b:List Int) (v:Int):Int:=if 1≤v∧v≤65536 then if onB a b v||onB a b (-v)then 0 else 140 else 140
theorem u6t {a b:List Int} {x:Int} (h:((!(a.contains x))||(!(b.contains (-x))))=true):onB a b x=false:=by
 unfold onB;cases h1:a.contains x<;>cases h2:b.contains (-x)<;>simp_all
theorem u2x {a b:List Int} {x:Int} (h:((!(a.contains x))||(!(b.contains (-x))))=false):onB a b x=true:=by
 unfold onB;cases h1:a.contains x<;>cases h2:b.contains (-x)<;>simp_all
theorem u6w {v:Int} {k:Nat} (h:k<2) (h1:1≤v) (h2:v≤65536): -65536≤[v,-v].getD k 0∧[v,-v].getD k 0≤65536:=by
 match k,h with
 |0,_=>exact⟨by show-65536≤v;omega,h2⟩
 |1,_=>exact⟨by show-65536≤-v;omega,by show-v≤65536;omega⟩
theorem k2t {a b:List Int} {v:Int} {k:Nat} (hk:k<2) (h1:1≤v) (h2:v≤65536) (hn:∀j,j<k→onB a b ([v,-v].getD j 0)=false) (hy:onB a b ([v,-v].getD k 0)=true):
 q3w a b v=x3u a b ([v,-v].getD k 0)∧x8j a b v=0:=by
 have hv:1≤v∧v≤65536:=⟨h1,h2⟩
 match k,hk with
 |0,_=>
  have hy:onB a b v=true:=hy
  exact⟨by unfold q3w;rw[if_pos hv,if_pos hy];rfl,by unfold x8j;rw[if_pos hv,hy];rfl⟩
 |1,_=>
  have hy:onB a b (-v)=true:=hy
  have hn:onB a b v=false:=hn 0 (by omega)
  exact⟨by unfold q3w;rw[if_pos hv,hn,if_neg (by simp),if_pos hy];rfl,by unfold x8j;rw[if_pos hv,hn,hy];rfl⟩
theorem u0g {a b:List Int} {v:Int} (hn:∀j,j<2→onB a b ([v,-v].getD j 0)=false):q3w a b v=[]∧x8j a b v=140:=by
 have h0:onB a b v=false:=hn 0 (by omega)
 have h1:onB a b (-v)=false:=hn 1 (by omega)
 unfold q3w x8j
 rw[h0,h1]
 constructor<;>split<;>rfl
theorem k1h {a b:List Int} {v:Int} (h:v<1∨65536<v):q3w a b v=[]∧x8j a b v=140:=by
 exact⟨by unfold q3w;rw[if_neg (by omega)],by unfold x8j;rw[if_neg (by omega)]⟩
theorem u7h (a b:List Int):[a,b].flatten=a++b:=by simp
end Go.Proofs.YteikjpbbhopkaaaGreatDoor.Cn
namespace Go.Proofs.YteikjpbbhopkaaaGreatDoor.Cn
open Go
theorem u5u {α:Type} [DecidableEq α] {d:α} {a b:List α} (hl:a.length=b.length) (h:∀j,j<a.length→a.getD j d=b.getD j d):decide (a=b)=true:=by
 rw[decide_eq_true_eq]
 refine Qh6 hl fun i h1 h2=>?_
 have:=h i h1
 rwa [Qa1,Qa1,Qa0 h1,Qa0 h2]at this
theorem u2t {α:Type} [DecidableEq α] {d:α} {a b:List α} {k:Nat} (h:a.getD k d≠b.getD k d):decide (a=b)=false:=by
 rw[decide_eq_false_iff_not];rintro rfl;exact h rfl
theorem k3y {α:Type} [DecidableEq α] {a b:List α} (h:a.length≠b.length):decide (a=b)=false:=by
 rw[decide_eq_false_iff_not];rintro rfl;exact h rfl
theorem k1l {P:Nat→Prop} {k:Nat} (h:∀j,j<k→P j) (hk:P k):∀j,j<k+1→P j:=fun j hj=>by
 rcases Nat.lt_succ_iff_lt_or_eq.1 hj with h1|rfl
 ·exact h j h1
 ·exact hk
end Go.Proofs.YteikjpbbhopkaaaGreatDoor.Cn
namespace Go.Proofs.YteikjpbbhopkaaaGreatDoor.Cn
open Go
def wP (x:Int) (l:List Int):Bool:=l.contains x&& !(l.contains (-x))
def q0l (c:List (List Int)) (x:Int):List (List Int):=c.filter (wP x)
def z3w (c:List (List Int)) (x:Int) (k:Nat):List Nat:=(List.range k).filter fun i=>wP x (c.getD i [])
theorem z9r {c:List (List Int)} {x:Int} {k:Nat}:z3w c x (k+1)=if wP x (c.getD k [])then z3w c x k++[k]else z3w c x k:=by
 unfold z3w
 rw[Qe8,Qe1]
 by_cases h:wP x (c.getD k [])=true
 ·rw[if_pos h,Qk4 (p:=fun i=>wP x (c.getD i [])) h,List.filter_nil]
 ·rw[if_neg h,Qk7 (p:=fun i=>wP x (c.getD i [])) h,List.filter_nil,Qf5]
theorem k1b {c:List (List Int)} {x:Int} {k n:Nat} (h:k≤n):∃t,z3w c x n=z3w c x k++t:=by
 induction n with
 |zero=>obtain rfl:k=0:=(by omega);exact⟨[],by simp⟩
 |succ n ih=>
  by_cases hk:k=n+1
  ·subst hk;exact⟨[],by simp⟩
  ·obtain⟨t,ht⟩:=ih (by omega)
   rw[z9r,ht]
   split
   ·exact⟨t++[n],by simp⟩
   ·exact⟨t,rfl⟩
theorem u1y {c:List (List Int)} {x:Int} {k n:Nat} (h:k<n) (hp:wP x (c.getD k [])=true):(z3w c x k).length<(z3w c x n).length∧(z3w c x n).getD (z3w c x k).length 0=k:=by
 obtain⟨t,ht⟩:=k1b (c:=c) (x:=x) (show k+1≤n from h)
 rw[z9r,if_pos hp]at ht
 rw[ht]
 constructor
 ·simp
 ·rw[Qc4,Qa1,Qe5 (Qb8 _),Qr7];rfl
theorem x8f (c:List (List Int)):(List.range c.length).map (fun i=>c.getD i [])=c:=by
 refine Qh6 (by simp) fun i h1 h2=>?_
 simp[List.getD,h2]
theorem z6l (c:List (List Int)) (x:Int):q0l c x=(z3w c x c.length).map fun i=>c.getD i []:=by
 have e:c.filter (wP x)=((List.range c.length).map fun i=>c.getD i []).filter (wP x):=by rw[x8f]
 unfold q0l z3w
 rw[e,List.filter_map]
 rfl
theorem u3v {c:List (List Int)} {x:Int} {n j:Nat} (h:j<(z3w c x n).length):(z3w c x n).getD j 0<n:=by
 rw[Qa1,Qa0 h]
 have:=(List.mem_filter.1 (Qc7 h)).1
 exact List.mem_range.1 this
theorem k0r {c:List (List Int)} {x:Int} {j:Nat} (h:j<(q0l c x).length):(q0l c x).getD j []=c.getD ((z3w c x c.length).getD j 0) []:=by
 have hl:j<(z3w c x c.length).length:=by rw[z6l]at h;simpa using h
 have e:(z3w c x c.length).getD j 0=(z3w c x c.length)[j]:=by rw[Qa1,Qa0 hl];rfl
 rw[z6l,e,Qa1,Qg6,Qa0 hl]
 rfl
theorem y1i (c:List (List Int)) (x:Int):(q0l c x).length=(z3w c x c.length).length:=by rw[z6l];simp
def z0i (v:Int) (l:List Int):Bool:=l.contains v||l.contains (-v)
def uOf (c:List (List Int)) (v:Int):List (List Int):=c.filter (z0i v)
def xOf (c:List (List Int)) (v:Int):List (List Int):=c.filter fun l=> !(z0i v l)
def z9c (a:List Int) (v:Int) (b:List Int):List (List Int):=if q8f (q3w a b v)then[]else[q3w a b v]
def x2v (a:List Int) (bs:List (List Int)) (v:Int) (j:Nat):List (List Int):=(bs.take j).flatMap (z9c a v)
def q7x (as_ bs:List (List Int)) (v:Int) (i:Nat):List (List Int):=(as_.take i).flatMap fun a=>bs.flatMap (z9c a v)
def j2q (many:Int):List (List Int)→List (List Int)→List (List Int)
 |acc,[]=>acc
 |acc,l::ls=>if many<((acc++[l]).length:Int)then acc++[l]else j2q many (acc++[l]) ls
def q2r (c:List (List Int)) (v many:Int):List (List Int):=j2q many (xOf c v) (q7x (q0l (uOf c v) v) (q0l (uOf c v) (-v)) v (q0l (uOf c v) v).length)
end Go.Proofs.YteikjpbbhopkaaaGreatDoor.Cn
namespace Go.Proofs.YteikjpbbhopkaaaGreatDoor.Cn
open Go
theorem q9n {c:List (List Int)} {v:Int} {k:Nat} (hk:k<c.length) (h:z0i v (c.getD k [])=true):uOf (c.take k) v++[c.getD k []]=uOf (c.take (k+1)) v∧xOf (c.take k) v=xOf (c.take (k+1)) v:=by
 unfold uOf xOf
 rw[q6h (d:=[]) hk,Qe1,Qe1,Qk4 h,Qk7 (by rw[h];simp)]
 simp
theorem q9u {c:List (List Int)} {v:Int} {k:Nat} (hk:k<c.length) (h:z0i v (c.getD k [])=false):xOf (c.take k) v++[c.getD k []]=xOf (c.take (k+1)) v∧uOf (c.take k) v=uOf (c.take (k+1)) v:=by
 unfold uOf xOf
 rw[q6h (d:=[]) hk,Qe1,Qe1,Qk4 (by rw[h];rfl),Qk7 (by rw[h];simp)]
 simp
abbrev q5d (c:List (List Int)) (v:Int):List (List Int):=q0l (uOf c v) v
abbrev q4m (c:List (List Int)) (v:Int):List (List Int):=q0l (uOf c v) (-v)
def stX (c:List (List Int)) (v:Int) (p q:Nat):List (List Int):=xOf c v++q7x (q5d c v) (q4m c v) v p++x2v ((q5d c v).getD p []) (q4m c v) v q
def okX (c:List (List Int)) (v many:Int) (p q:Nat):Prop:=stX c v p q=xOf c v∨((stX c v p q).length:Int)≤many
section
variable {c:List (List Int)} {v many:Int} {p q:Nat}
theorem k3w:xOf c v=stX c v 0 0:=by simp[stX,q7x,x2v]
theorem u4m:okX c v many 0 0:=.inl k3w.symm
theorem k8r (a:List Int) (bs:List (List Int)):x2v a bs v bs.length=bs.flatMap (z9c a v):=by simp[x2v]
theorem x9e (hp:p<(q5d c v).length):stX c v p (q4m c v).length=stX c v (p+1) 0:=by
 unfold stX
 rw[k8r]
 have h1:q7x (q5d c v) (q4m c v) v (p+1)=q7x (q5d c v) (q4m c v) v p++(q4m c v).flatMap (z9c ((q5d c v).getD p []) v):=by
  unfold q7x;rw[q6h (d:=[]) hp,Qm9];simp
 rw[h1]
 simp[x2v]
theorem u5k (hp:p<(q5d c v).length) (h:okX c v many p (q4m c v).length):okX c v many (p+1) 0:=by
 unfold okX at h⊢;rw[←x9e hp];exact h
theorem y2v {a:List Int} {bs:List (List Int)} (hq:q<bs.length):x2v a bs v (q+1)=x2v a bs v q++z9c a v (bs.getD q []):=by
 unfold x2v;rw[q6h (d:=[]) hq,Qm9];simp
theorem y3f (hq:q<(q4m c v).length) (h:q8f (q3w ((q5d c v).getD p []) ((q4m c v).getD q []) v)=true):stX c v p q=stX c v p (q+1):=by
 unfold stX;rw[y2v hq];unfold z9c;rw[if_pos h,Qf5]
theorem u3p (hq:q<(q4m c v).length) (h:q8f (q3w ((q5d c v).getD p []) ((q4m c v).getD q []) v)=true) (ho:okX c v many p q):okX c v many p (q+1):=by
 unfold okX at ho⊢;rw[←y3f hq h];exact ho
theorem k0a (hq:q<(q4m c v).length) (h:q8f (q3w ((q5d c v).getD p []) ((q4m c v).getD q []) v)=false):stX c v p q++[q3w ((q5d c v).getD p []) ((q4m c v).getD q []) v]=stX c v p (q+1):=by
 unfold stX;rw[y2v hq];unfold z9c;rw[if_neg (by rw[h];simp),←Qc4]
theorem u7t (hq:q<(q4m c v).length) (h:q8f (q3w ((q5d c v).getD p []) ((q4m c v).getD q []) v)=false) (ho:((stX c v p q++[q3w ((q5d c v).getD p []) ((q4m c v).getD q []) v]).length:Int)≤many):okX c v many p (q+1):=by
 rw[k0a hq h]at ho;exact .inr ho
theorem j4s : ∀ {acc r1 r2 : List (List Int)}, (r1 = [] ∨ ((acc ++ r1).length : Int) ≤ many) → j2q many acc (r1 ++ r2) = j2q many (acc ++ r1) r2
  | acc, [], r2, _ => by simp
  | acc, l :: r1, r2, h => by
    have h' : ((acc ++ l :: r1).length : Int) ≤ many := by rcases h with h | h
                                                           · cases h
                                                           · exact h
    have h1 : ((acc ++ [l]).length : Int) ≤ many := by simp only [Qa3, Qa8, Qb5] at h' ⊢; omega
    show (if many < ((acc ++ [l]).length : Int) then acc ++ [l] else j2q many (acc ++ [l]) (r1 ++ r2)) = _
    rw [if_neg (by omega), j4s (acc := acc ++ [l]) (r1 := r1) (.inr (by simpa [Qc4] using h')), Qc4]
    rfl
theorem u3k {acc ls:List (List Int)} {l:List Int} (h:many<((acc++[l]).length:Int)):j2q many acc (l::ls)=acc++[l]:=by
 show(if many<((acc++[l]).length:Int)then acc++[l]else _)=_
 rw[if_pos h]
theorem z7s {acc:List (List Int)}:j2q many acc []=acc:=rfl
theorem u1h {acc r1 r2:List (List Int)} (h:acc++r1=acc∨((acc++r1).length:Int)≤many):j2q many acc (r1++r2)=j2q many (acc++r1) r2:=
 j4s (h.imp (fun h=>by simpa using h) id)
theorem u8j (h:okX c v many (q5d c v).length 0):q2r c v many=stX c v (q5d c v).length 0:=by
 have e:stX c v (q5d c v).length 0=xOf c v++q7x (q5d c v) (q4m c v) v (q5d c v).length:=by simp[stX,x2v]
 unfold okX at h
 rw[e]at h⊢
 have:=u1h (r2:=[]) h
 rw[Qf5,z7s]at this
 exact this
theorem x2k (hp:p<(q5d c v).length) (hq:q<(q4m c v).length) (h:q8f (q3w ((q5d c v).getD p []) ((q4m c v).getD q []) v)=false):
 ∃t,q7x (q5d c v) (q4m c v) v (q5d c v).length=(q7x (q5d c v) (q4m c v) v p++x2v ((q5d c v).getD p []) (q4m c v) v q)++(q3w ((q5d c v).getD p []) ((q4m c v).getD q []) v::t):=by
 have e1:q5d c v=(q5d c v).take p++((q5d c v).getD p []::(q5d c v).drop (p+1)):=by
  rw[Qa1,Qa0 hp]
  simp
 have e2:q4m c v=(q4m c v).take q++((q4m c v).getD q []::(q4m c v).drop (q+1)):=by
  rw[Qa1,Qa0 hq]
  simp
 generalize hA:(q5d c v).getD p []=a at*
 generalize hB:(q4m c v).getD q []=b at*
 have e3:(q4m c v).flatMap (z9c a v)=x2v a (q4m c v) v q++(q3w a b v::((q4m c v).drop (q+1)).flatMap (z9c a v)):=by
  conv=>lhs;rw[e2]
  rw[Qm9,Ql9]
  unfold x2v
  have:z9c a v b=[q3w a b v]:=by unfold z9c;rw[if_neg (by rw[h];simp)]
  rw[this];rfl
 refine⟨((q4m c v).drop (q+1)).flatMap (z9c a v)++((q5d c v).drop (p+1)).flatMap (fun a=>(q4m c v).flatMap (z9c a v)),?_⟩
 have e4:q7x (q5d c v) (q4m c v) v (q5d c v).length=(q5d c v).flatMap fun a=>(q4m c v).flatMap (z9c a v):=by unfold q7x;rw[Qd3]
 have e5:((q5d c v).flatMap fun a=>(q4m c v).flatMap (z9c a v))=((q5d c v).take p).flatMap (fun a=>(q4m c v).flatMap (z9c a v))++((q4m c v).flatMap (z9c a v)++((q5d c v).drop (p+1)).flatMap (fun a=>(q4m c v).flatMap (z9c a v))):=by
  conv=>lhs;arg 2;rw[e1]
  rw[Qm9,Ql9]
 rw[e4,e5,e3]
 unfold q7x
 simp[Qc4]
theorem u9q (hp:p<(q5d c v).length) (hq:q<(q4m c v).length) (h:q8f (q3w ((q5d c v).getD p []) ((q4m c v).getD q []) v)=false) (ho:okX c v many p q)
 (hb:((stX c v p q++[q3w ((q5d c v).getD p []) ((q4m c v).getD q []) v]).length:Int)>many):q2r c v many=stX c v p q++[q3w ((q5d c v).getD p []) ((q4m c v).getD q []) v]:=by
 obtain⟨t,ht⟩:=x2k hp hq h
 unfold q2r
 rw[show q7x (q0l (uOf c v) v) (q0l (uOf c v) (-v)) v (q0l (uOf c v) v).length=_ from ht]
 have e:stX c v p q=xOf c v++(q7x (q5d c v) (q4m c v) v p++x2v ((q5d c v).getD p []) (q4m c v) v q):=by unfold stX;rw[Qc4]
 unfold okX at ho
 rw[e]at ho hb⊢
 rw[u1h ho,u3k hb]
theorem y8c (a b:List Int) (v:Int):(q3w a b v).length≤a.length+b.length:=by
 have hn:∀x,(x3u a b x).length≤a.length+b.length:=fun x=>by
  unfold x3u
  refine Qc0 (y8x _) ?_
  rw[Qa3]
  exact Nat.add_le_add (Qd8 _ _) (Qd8 _ _)
 unfold q3w
 split
 ·split
  ·exact hn _
  ·split
   ·exact hn _
   ·simp
 ·simp
theorem y7i:(uOf c v).length≤c.length:=Qd8 _ _
theorem y5l:(xOf c v).length≤c.length:=Qd8 _ _
theorem x6s {l:List Int} (h:l∈q5d c v):l∈c:=(List.mem_filter.1 (List.mem_filter.1 h).1).1
theorem k1u {l:List Int} (h:l∈q4m c v):l∈c:=(List.mem_filter.1 (List.mem_filter.1 h).1).1
theorem u1f (hc:c.length≤10000) (hm:many≤65536) (h:okX c v many p q):(stX c v p q).length≤75536:=by
 rcases h with h|h
 ·rw[h];have:=y5l (c:=c) (v:=v);omega
 ·omega
theorem x0k:∀{acc ls:List (List Int)},(j2q many acc ls).length≤acc.length+1∨((j2q many acc ls).length:Int)≤many+1
 |acc,[]=>.inl (by rw[z7s];omega)
 |acc,l::ls=>by
  show(if many<((acc++[l]).length:Int)then acc++[l]else j2q many (acc++[l]) ls).length≤_∨((if many<((acc++[l]).length:Int)then acc++[l]else j2q many (acc++[l]) ls).length:Int)≤_
  split
  ·left;simp
  ·rename_i hn
   rcases x0k (acc:=acc++[l]) (ls:=ls)with h|h
   ·right;omega
   ·right;exact h
theorem x6t:∀{acc ls:List (List Int)} {l:List Int},l∈j2q many acc ls→l∈acc∨l∈ls
 |acc,[],l,h=>.inl h
 |acc,m::ls,l,h=>by
  have h:l∈(if many<((acc++[m]).length:Int)then acc++[m]else j2q many (acc++[m]) ls):=h
  split at h
  ·rcases List.mem_append.1 h with h|h
   ·exact .inl h
   ·rw[Qe0]at h;subst h;exact .inr Qb4
  ·rcases x6t h with h|h
   ·rcases List.mem_append.1 h with h|h
    ·exact .inl h
    ·rw[Qe0]at h;subst h;exact .inr Qb4
   ·exact .inr (Qb7 _ h)
theorem x8a {l:List Int} (h:l∈q2r c v many):l∈c∨∃a b,a∈q5d c v∧b∈q4m c v∧q8f (q3w a b v)=false∧l=q3w a b v:=by
 rcases x6t h with h|h
 ·exact .inl (List.mem_filter.1 h).1
 ·right
  unfold q7x at h
  rw[Qd3]at h
  obtain⟨a,ha,h⟩:=List.mem_flatMap.1 h
  obtain⟨b,hb,h⟩:=List.mem_flatMap.1 h
  unfold z9c at h
  split at h
  ·cases h
  ·rename_i ht
   rw[Qe0]at h
   exact⟨a,b,ha,hb,by simpa using ht,h⟩
theorem u4h (hc:c.length≤10000) (hm:many≤65536):(q2r c v many).length≤75537:=by
 have:=y5l (c:=c) (v:=v)
 rcases x0k (many:=many) (acc:=xOf c v) (ls:=q7x (q0l (uOf c v) v) (q0l (uOf c v) (-v)) v (q0l (uOf c v) v).length)with h|h
 ·unfold q2r;omega
 ·unfold q2r;omega
theorem k4x (hl:∀m∈c,m.length≤1000):∀l∈q2r c v many,l.length≤2000:=fun l h=>by
 rcases x8a h with h|⟨a,b,ha,hb,_,rfl⟩
 ·have:=hl l h;omega
 ·have h1:=hl a (x6s ha)
  have h2:=hl b (k1u hb)
  have:=y8c a b v
  omega
end
def ouE (N:Int) (L:List (List Int)) (v:Int):Int:=if q3x N L≠0 then q3x N L else if v<1∨N<v then 140 else if 65536<((q2r L v 65536).length:Int)then 2 else 0
def ouN (N:Int) (L:List (List Int)) (v:Int):Int:=if ouE N L v=0 then N else 0
def ouX (N:Int) (L:List (List Int)) (v:Int):List (List Int):=if ouE N L v=0 then q2r L v 65536 else[]
def ouV (N:Int) (L:List (List Int)) (v:Int):Int:=if ouE N L v=0 then v else 0
def ouU (N:Int) (L:List (List Int)) (v:Int):List (List Int):=if ouE N L v=0 then uOf L v else[]
theorem u1z {N:Int} {L:List (List Int)} {v e:Int} (h:ouE N L v=e) (h0:e≠0):ouN N L v=0∧ouX N L v=[]∧ouV N L v=0∧ouU N L v=[]∧ouE N L v=e:=by
 unfold ouN ouX ouV ouU
 rw[h,if_neg h0,if_neg h0,if_neg h0,if_neg h0]
 exact⟨rfl,rfl,rfl,rfl,rfl⟩
theorem u7u {N:Int} {L:List (List Int)} {v:Int} (h:q3x N L≠0):ouE N L v=q3x N L:=if_pos h
theorem u0d {N:Int} {L:List (List Int)} {v:Int} (h:q3x N L=0) (hv:v<1∨N<v):ouE N L v=140:=by
 unfold ouE;rw[if_neg (fun e=>e h),if_pos hv]
theorem u8w {N:Int} {L:List (List Int)} {v:Int} (h:q3x N L=0) (hv:¬(v<1∨N<v)) (hb:¬(((q2r L v 65536).length:Int)≤65536)):ouE N L v=2:=by
 unfold ouE;rw[if_neg (fun e=>e h),if_neg hv,if_pos (Int.not_le.1 hb)]
theorem u7b {N:Int} {L:List (List Int)} {v:Int} (h:q3x N L=0) (hv:¬(v<1∨N<v)) (hb:((q2r L v 65536).length:Int)≤65536):ouE N L v=0∧ouN N L v=N∧ouX N L v=q2r L v 65536∧ouV N L v=v∧ouU N L v=uOf L v:=by
 have e:ouE N L v=0:=by unfold ouE;rw[if_neg (fun e=>e h),if_neg hv,if_neg (Int.not_lt.2 hb)]
 unfold ouN ouX ouV ouU
 rw[e]
 exact⟨rfl,rfl,rfl,rfl,rfl⟩
end Go.Proofs.YteikjpbbhopkaaaGreatDoor.Cn
namespace Go.Proofs.YteikjpbbhopkaaaGreatDoor.Cn
open Go
def u1t (a:List Bool) (V:Int):List Bool:=if V+1-(a.length:Int)>0 then a++List.replicate (V+1-(a.length:Int)).toNat false else a
def u6n (b:List Bool) (V:Int) (L:List (List Int)):List Bool:=(b.set V.toNat false).set V.toNat (L.any fun l=> !(holdsV (b.set V.toNat false) l))
def q2c (a:List Bool) (w:Int×List (List Int)):List Bool:=if w.1<1∨65536<w.1 then a else u6n (u1t a w.1) w.1 w.2
def backTo (u:List (Int×List (List Int))) (a:List Bool) (i:Nat):List Bool:=(u.reverse.take i).foldl q2c a
def q3h (u:List (Int×List (List Int))) (a:List Bool):List Bool:=u.reverse.foldl q2c a
section
variable {u:List (Int×List (List Int))} {a:List Bool} {i:Nat} {w:Int×List (List Int)}
theorem x4a:backTo u a u.length=q3h u a:=by unfold backTo q3h;rw[Qd6 (by simp)]
theorem z1k (h:i<u.length):backTo u a (i+1)=q2c (backTo u a i) (u.getD (u.length-1-i) (0,[])):=by
 unfold backTo
 have hr:i<u.reverse.length:=by simpa using h
 rw[Qb9 hr,Qn6,List.getElem_reverse,Qa1,Qa0 (by omega)]
 rfl
theorem k8h (ha:a.length≤1000000) (hv:w.1≤65536):(u1t a w.1).length≤1000000:=by
 unfold u1t;split
 ·rw[Qa3,Qb1];omega
 ·exact ha
theorem k8e (ha:a.length≤1000000):(q2c a w).length≤1000000:=by
 unfold q2c;split
 ·exact ha
 ·unfold u6n;rw[Qb6,Qb6];exact k8h ha (by omega)
theorem x1o:∀{l:List (Int×List (List Int))} {a:List Bool},a.length≤1000000→(l.foldl q2c a).length≤1000000
 |[],_,h=>h
 |_::l,_,h=>x1o (l:=l) (k8e h)
theorem j0v (ha:a.length≤1000000):(backTo u a i).length≤1000000:=x1o ha
theorem y3v (h:w.1<1∨65536<w.1):a=q2c a w:=by unfold q2c;rw[if_pos h]
theorem k3v (h:¬(w.1<1∨65536<w.1)) (hn:w.1+1-(a.length:Int)>0):u6n (a++List.replicate (w.1+1-(a.length:Int)).toNat false) w.1 w.2=q2c a w:=by
 unfold q2c u1t;rw[if_neg h,if_pos hn]
theorem u3i (h:¬(w.1<1∨65536<w.1)) (hn:¬(w.1+1-(a.length:Int)>0)):u6n a w.1 w.2=q2c a w:=by
 unfold q2c u1t;rw[if_neg h,if_neg hn]
end
end Go.Proofs.YteikjpbbhopkaaaGreatDoor.Cn
namespace Go.Proofs.YteikjpbbhopkaaaGreatDoor.Cn
open Go
section
variable {N vars clauses:Int} {L:List (List Int)}
end
section
variable {c:List (List Int)} {v:Int} {k:Nat}
theorem k5c {l:List Int}:(z0i v l&&wP v l)=wP v l:=by
 unfold z0i wP;cases l.contains v<;>cases l.contains (-v)<;>rfl
theorem k6v {l:List Int}:(z0i v l&&wP (-v) l)=wP (-v) l:=by
 unfold z0i wP;rw[Qq8];cases l.contains v<;>cases l.contains (-v)<;>rfl
theorem u6u:q5d c v=c.filter (wP v):=by
 unfold q5d q0l uOf
 rw[List.filter_filter]
 exact Qq1 fun l _=>by rw[Bool.and_comm,k5c]
theorem u7y:q4m c v=c.filter (wP (-v)):=by
 unfold q4m q0l uOf
 rw[List.filter_filter]
 exact Qq1 fun l _=>by rw[Bool.and_comm,k6v]
end
end Go.Proofs.YteikjpbbhopkaaaGreatDoor.Cn
namespace Go.Proofs.YteikjpbbhopkaaaGreatDoor.Cn
open Go
theorem n23:q5t [2,3]=[2,3]:=u5n (by decide) fun x=>by
 simp only[Qf1,Qh7,or_false]
 constructor
 ·rintro(rfl|rfl)<;>decide
 ·exact fun h=>h.1
theorem r23:q3w [1,2] [-1,3] 1=[2,3]:=by
 unfold q3w
 rw[if_pos (by decide),if_pos (by decide)]
 exact n23
theorem t23:q8f [2,3]=false:=by unfold q8f;rw[n23];rfl
theorem o23:q2r [[1,2],[-1,3],[2,3]] 1 65536=[[2,3],[2,3]]:=by
 have hA:q7x [[1,2]] [[-1,3]] 1 1=[[2,3]]:=by
  show z9c [1,2] 1 [-1,3]++[]++[]=_
  unfold z9c
  rw[r23,t23]
  rfl
 show j2q 65536 [[2,3]] (q7x [[1,2]] [[-1,3]] 1 1)=_
 rw[hA]
 rfl
theorem u4o:ouE 3 [[1,2],[-1,3],[2,3]] 1=0∧ouN 3 [[1,2],[-1,3],[2,3]] 1=3∧ouX 3 [[1,2],[-1,3],[2,3]] 1=[[2,3],[2,3]]∧ouV 3 [[1,2],[-1,3],[2,3]] 1=1∧ouU 3 [[1,2],[-1,3],[2,3]] 1=[[1,2],[-1,3]]:=by
 obtain⟨h1,h2,h3,h4,h5⟩:=u7b (N:=3) (L:=[[1,2],[-1,3],[2,3]]) (v:=1) (by decide) (by omega) (by rw[o23];decide)
 exact⟨h1,h2,h3.trans o23,h4,h5⟩
theorem u2n:ouE 3 [[1,2],[-1,3],[2,3]] 4=140:=u0d (by decide) (by omega)
section
variable {N v:Int} {L:List (List Int)}
end
end Go.Proofs.YteikjpbbhopkaaaGreatDoor.Cn
namespace Go.Proofs.YteikjpbbhopkaaaGreatDoor.Cn
open Go
theorem j5b {many:Int}:∀{acc ls:List (List Int)},((j2q many acc ls).length:Int)≤many→j2q many acc ls=acc++ls
 |acc,[],_=>by rw[z7s,Qf5]
 |acc,l::ls,h=>by
  have e:j2q many acc (l::ls)=if many<((acc++[l]).length:Int)then acc++[l]else j2q many (acc++[l]) ls:=rfl
  by_cases hb:many<((acc++[l]).length:Int)
  ·rw[e,if_pos hb]at h;omega
  ·rw[e,if_neg hb]at h⊢
   rw[j5b h,Qc4];rfl
theorem z1j {c:List (List Int)} {v many:Int} (h:((q2r c v many).length:Int)≤many) (l:List Int):
 l∈q2r c v many↔l∈xOf c v∨∃a b,a∈q5d c v∧b∈q4m c v∧q8f (q3w a b v)=false∧l=q3w a b v:=by
 unfold q2r at h⊢
 rw[j5b h,Qf4]
 refine or_congr Iff.rfl ?_
 unfold q7x
 rw[Qd3]
 simp only[List.mem_flatMap]
 constructor
 ·rintro⟨a,ha,b,hb,h⟩
  unfold z9c at h
  split at h
  ·cases h
  ·rename_i ht
   rw[Qe0]at h
   exact⟨a,b,ha,hb,by simpa using ht,h⟩
 ·rintro⟨a,b,ha,hb,ht,rfl⟩
  exact⟨a,ha,b,hb,by unfold z9c;rw[if_neg (by rw[ht];simp)];exact List.mem_singleton_self _⟩
def tv (a:List Bool) (x:Int):Bool:=a.getD x.natAbs false==decide (0<x)
section
variable {N v:Int} {L:List (List Int)} {a:List Bool}
theorem k9t {x:Int} (hN:N≤65536) (hx:q2q x N=true) (ha:(a.length:Int)=N+1):z4l a x=tv a x:=by
 obtain⟨h0,h1,h2⟩:=q5f.1 hx
 unfold z4l tv
 rw[q5f.2 ⟨h0,by omega,by omega⟩,decide_eq_true (by omega:x.natAbs<a.length)]
 simp
theorem u0h {x:Int} (h:x≠0):tv a (-x)= !(tv a x):=by
 unfold tv
 rw[Qk0]
 by_cases hp:0<x
 ·rw[decide_eq_true hp,decide_eq_false (by omega:¬0< -x)];cases a.getD x.natAbs false<;>rfl
 ·rw[decide_eq_false hp,decide_eq_true (by omega:0< -x)];cases a.getD x.natAbs false<;>rfl
theorem x7w {k n:Nat} {b:Bool} (hn:n<a.length):(a.set n b).getD k false=if k=n then b else a.getD k false:=by
 rw[Qa1,Qa1,List.getElem?_set]
 by_cases h:n=k
 ·subst h;rw[if_pos rfl,if_pos rfl,if_pos hn];rfl
 ·rw[if_neg h,if_neg (fun e=>h e.symm)]
theorem q3i {x:Int} {n:Nat} {b:Bool} (hn:n<a.length) (h:x.natAbs≠n):tv (a.set n b) x=tv a x:=by
 unfold tv;rw[x7w hn,if_neg h]
theorem y4o {x:Int} {n:Nat} {b:Bool} (hn:n<a.length) (h:x.natAbs=n):tv (a.set n b) x=(b==decide (0<x)):=by
 unfold tv;rw[x7w hn,if_pos h]
theorem set_self {n:Nat} (hn:n<a.length):a=a.set n (a.getD n false):=by
 rw[Qa1,Qa0 hn]
 simp
def Rng (N:Int) (l:List Int):Prop:=∀x∈l,q2q x N=true
theorem z6h {l:List Int} (hN:N≤65536) (hl:Rng N l) (ha:(a.length:Int)=N+1):holdsV a l=true↔∃x∈l,tv a x=true:=by
 unfold holdsV
 rw[Qf7]
 constructor
 ·rintro⟨x,hx,h⟩;exact⟨x,hx,by rwa [k9t hN (hl x hx) ha]at h⟩
 ·rintro⟨x,hx,h⟩;exact⟨x,hx,by rwa [k9t hN (hl x hx) ha]⟩
end
section
variable {N v:Int} {c:List (List Int)} {a:List Bool}
theorem z3m {l:List Int}:l∈q5d c v↔l∈c∧v∈l∧-v∉l:=by
 rw[u6u,Ql6]
 unfold wP
 rw[Qa2,Qd1,←Qm8,Qg0,Qg0]
theorem z3z {l:List Int}:l∈q4m c v↔l∈c∧-v∈l∧v∉l:=by
 rw[u7y,Ql6]
 unfold wP
 rw[Qq8,Qa2,Qd1,←Qm8,Qg0,Qg0]
theorem q9t {l:List Int}:l∈xOf c v↔l∈c∧v∉l∧-v∉l:=by
 unfold xOf z0i
 rw[Ql6,Qd1,Qc5,←Qm8,←Qm8,Qg0,Qg0]
theorem q7h {l b:List Int} {y:Int} (hv1:1≤v) (hv2:v≤65536) (hl:l∈q5d c v) (hb:b∈q4m c v):y∈q3w l b v↔((y∈l∧y≠v)∨(y∈b∧y≠-v))∧q2q y 65536=true:=by
 have hon:onB l b v=true:=by
  unfold onB
  rw[Qa2,Qg0,Qg0]
  exact⟨(z3m.1 hl).2.1,(z3z.1 hb).2.1⟩
 unfold q3w
 rw[if_pos ⟨hv1,hv2⟩,if_pos hon]
 unfold x3u
 rw[z0c,Qf4,Ql6,Ql6]
 simp
theorem z7i {y:Int} (hv:1≤v) (h1:y≠v) (h2:y≠-v):y.natAbs≠v.toNat:=by omega
theorem v1a {b:Bool} (hv:1≤v) (hn:v.toNat<a.length):tv (a.set v.toNat b) v=b:=by
 rw[y4o hn (by omega),decide_eq_true (by omega:0<v)];cases b<;>rfl
theorem u7a {b:Bool} (hv:1≤v) (hn:v.toNat<a.length):tv (a.set v.toNat b) (-v)= !b:=by
 rw[u0h (by omega),v1a hv hn]
theorem x1r (hv1:1≤v) (hv2:v≤65536) (hn:v.toNat<a.length) (hc:∀l∈c,∀x∈l,q2q x 65536=true) (hs:((q2r c v 65536).length:Int)≤65536)
 (h:∀l∈q2r c v 65536,∃x∈l,tv a x=true):(∀l∈c,∃x∈l,tv (a.set v.toNat true) x=true)∨(∀l∈c,∃x∈l,tv (a.set v.toNat false) x=true):=by
 have hrest:∀(b:Bool) (l:List Int),l∈c→v∉l→-v∉l→∃x∈l,tv (a.set v.toNat b) x=true:=fun b l hl h1 h2=>by
  obtain⟨y,hy,ht⟩:=h l ((z1j hs l).2 (.inl (q9t.2 ⟨hl,h1,h2⟩)))
  exact⟨y,hy,by rw[q3i hn (z7i hv1 (fun e=>h1 (e▸hy)) (fun e=>h2 (e▸hy)))];exact ht⟩
 by_cases hq:∀b∈q4m c v,∃y∈b,y≠-v∧tv a y=true
 ·left
  intro l hl
  by_cases h1:v∈l
  ·exact⟨v,h1,v1a hv1 hn⟩
  ·by_cases h2: -v∈l
   ·obtain⟨y,hy,hne,ht⟩:=hq l (z3z.2 ⟨hl,h2,h1⟩)
    exact⟨y,hy,by rw[q3i hn (z7i hv1 (fun e=>h1 (e▸hy)) hne)];exact ht⟩
   ·exact hrest true l hl h1 h2
 ·right
  have hq':∃b,b∈q4m c v∧∀y∈b,y≠-v→tv a y=false:=by
   refine Classical.byContradiction fun hno=>hq fun b hb=>?_
   refine Classical.byContradiction fun hno2=>hno ⟨b,hb,fun y hy hne=>?_⟩
   cases ht:tv a y with
   |false=>rfl
   |true=>exact absurd ⟨y,hy,hne,ht⟩ hno2
  obtain⟨b,hb,hbf⟩:=hq'
  intro l hl
  by_cases h2: -v∈l
  ·exact⟨-v,h2,by rw[u7a hv1 hn];rfl⟩
  ·by_cases h1:v∈l
   ·have hp:=z3m.2 ⟨hl,h1,h2⟩
    have hz:∃z∈q3w l b v,tv a z=true:=by
     cases ht:q8f (q3w l b v)with
     |false=>exact h _ ((z1j hs _).2 (.inr ⟨l,b,hp,hb,ht,rfl⟩))
     |true=>
      obtain⟨y,hy1,hy2⟩:=k8a.1 ht
      have hr1:=(z0c.1 hy1).1
      have hr2:=(z0c.1 hy2).1
      cases hty:tv a y with
      |true=>exact⟨y,hr1,hty⟩
      |false=>exact⟨-y,hr2,by rw[u0h (x7q hy1),hty];rfl⟩
    obtain⟨z,hz,htz⟩:=hz
    rcases((q7h hv1 hv2 hp hb).1 hz).1 with⟨h3,h4⟩|⟨h3,h4⟩
    ·exact⟨z,h3,by rw[q3i hn (z7i hv1 h4 (fun e=>h2 (e▸h3)))];exact htz⟩
    ·rw[hbf z h3 h4]at htz;cases htz
   ·exact hrest false l hl h1 h2
theorem y7w {b:Bool} (hv1:1≤v) (hv2:v≤65536) (hn:v.toNat<a.length) (hc:∀l∈c,∀x∈l,q2q x 65536=true) (hs:((q2r c v 65536).length:Int)≤65536)
 (h:∀l∈c,∃x∈l,tv (a.set v.toNat b) x=true):∀l∈q2r c v 65536,∃x∈l,tv a x=true:=by
 intro l hl
 rcases(z1j hs l).1 hl with hx|⟨p,q,hp,hq,_,rfl⟩
 ·obtain⟨hlc,h1,h2⟩:=q9t.1 hx
  obtain⟨y,hy,ht⟩:=h l hlc
  exact⟨y,hy,by rw[q3i hn (z7i hv1 (fun e=>h1 (e▸hy)) (fun e=>h2 (e▸hy)))]at ht;exact ht⟩
 ·obtain⟨hpc,hp1,hp2⟩:=z3m.1 hp
  obtain⟨hqc,hq1,hq2⟩:=z3z.1 hq
  cases b with
  |true=>
   obtain⟨y,hy,ht⟩:=h q hqc
   have hne:y≠-v:=fun e=>by rw[e,u7a hv1 hn]at ht;cases ht
   exact⟨y,(q7h hv1 hv2 hp hq).2 ⟨.inr ⟨hy,hne⟩,hc q hqc y hy⟩,by rw[q3i hn (z7i hv1 (fun e=>hq2 (e▸hy)) hne)]at ht;exact ht⟩
  |false=>
   obtain⟨y,hy,ht⟩:=h p hpc
   have hne:y≠v:=fun e=>by rw[e,v1a hv1 hn]at ht;cases ht
   exact⟨y,(q7h hv1 hv2 hp hq).2 ⟨.inl ⟨hy,hne⟩,hc p hpc y hy⟩,by rw[q3i hn (z7i hv1 hne (fun e=>hp2 (e▸hy)))]at ht;exact ht⟩
end
section
variable {N v:Int} {L:List (List Int)} {a:List Bool}
theorem z7u (ha:(a.length:Int)=N+1) (hc:q3x N L=0):j2s N L a=true↔∀l∈L,∃x∈l,tv a x=true:=by
 obtain⟨hN,hr,_⟩:=q6b.1 hc
 unfold j2s
 rw[hc,Qa2,Qh1]
 constructor
 ·rintro⟨_,h⟩ l hl;exact(z6h hN.2 (hr l hl) ha).1 (h l hl)
 ·intro h;exact⟨rfl,fun l hl=>(z6h hN.2 (hr l hl) ha).2 (h l hl)⟩
theorem y3h (hc:q3x N L=0) (hv1:1≤v) (hv2:v≤N) (hs:((q2r L v 65536).length:Int)≤65536):q3x N (q2r L v 65536)=0:=by
 obtain⟨hN,hr,_⟩:=q6b.1 hc
 refine q6b.2 ⟨hN,fun l hl x hx=>?_,by omega⟩
 rcases(z1j hs l).1 hl with h|⟨p,q,hp,hq,_,rfl⟩
 ·exact hr l (q9t.1 h).1 x hx
 ·rcases((q7h hv1 (by omega) hp hq).1 hx).1 with⟨h,_⟩|⟨h,_⟩
  ·exact hr p (z3m.1 hp).1 x h
  ·exact hr q (z3z.1 hq).1 x h
theorem x9z (hc:q3x N L=0):∀l∈L,∀x∈l,q2q x 65536=true:=fun l hl x hx=>by
 obtain⟨hN,hr,_⟩:=q6b.1 hc
 obtain⟨h0,h1,h2⟩:=q5f.1 (hr l hl x hx)
 exact q5f.2 ⟨h0,by omega,by omega⟩
theorem u9t (b:Bool) {n:Nat} (hn:n<a.length):(a.set n b=a)∨(a.set n b=a.set n (!(a.getD n false))):=by
 have h:=set_self (a:=a) hn
 cases hb:a.getD n false<;>rw[hb]at h<;>cases b
 ·exact .inl h.symm
 ·exact .inr rfl
 ·exact .inr rfl
 ·exact .inl h.symm
theorem k6t (ha:(a.length:Int)=N+1) (hc:q3x N L=0) (hv1:1≤v) (hv2:v≤N) (hs:((q2r L v 65536).length:Int)≤65536):
 j2s N (q2r L v 65536) a=(j2s N L a||j2s N L (a.set v.toNat (!(a.getD v.toNat false)))):=by
 obtain⟨hN,hr,_⟩:=q6b.1 hc
 have hn:v.toNat<a.length:=by omega
 have hb:=x9z hc
 have hlen:∀b:Bool,((a.set v.toNat b).length:Int)=N+1:=fun b=>by rw[Qb6];exact ha
 rw[Qh3,Qd2,z7u ha (y3h hc hv1 hv2 hs),z7u ha hc,z7u (hlen _) hc]
 constructor
 ·intro h
  have hor:∀b:Bool,(∀l∈L,∃x∈l,tv (a.set v.toNat b) x=true)→(∀l∈L,∃x∈l,tv a x=true)∨(∀l∈L,∃x∈l,tv (a.set v.toNat (!(a.getD v.toNat false))) x=true):=fun b hb=>by
   rcases u9t b hn with e|e
   ·left;rwa [e]at hb
   ·right;rwa [e]at hb
  rcases x1r hv1 (by omega) hn hb hs h with h|h
  ·exact hor true h
  ·exact hor false h
 ·rintro(h|h)
  ·refine y7w (b:=a.getD v.toNat false) hv1 (by omega) hn hb hs ?_
   rw[←set_self hn];exact h
  ·exact y7w hv1 (by omega) hn hb hs h
theorem k4r (ha:(a.length:Int)=N+1) (hc:q3x N L=0) (hv1:1≤v) (hv2:v≤N) (hs:((q2r L v 65536).length:Int)≤65536) (h:j2s N (q2r L v 65536) a=true):
 j2s N L (q3h [(v,uOf L v)] a)=true:=by
 obtain⟨hN,hr,_⟩:=q6b.1 hc
 have hn:v.toNat<a.length:=by omega
 have hlen:∀b:Bool,((a.set v.toNat b).length:Int)=N+1:=fun b=>by rw[Qb6];exact ha
 have hx:=(z7u ha (y3h hc hv1 hv2 hs)).1 h
 have hbk:q3h [(v,uOf L v)] a=a.set v.toNat ((uOf L v).any fun l=> !(holdsV (a.set v.toNat false) l)):=by
  show q2c a (v,uOf L v)=_
  unfold q2c
  rw[if_neg (by show¬(v<1∨65536<v);omega)]
  unfold u1t u6n
  rw[if_neg (by show¬(v+1-(a.length:Int)>0);omega)]
  simp
 rw[hbk,z7u (hlen _) hc]
 have hset:∀l∈L,Rng N l:=fun l hl=>hr l hl
 cases hu:(uOf L v).any fun l=> !(holdsV (a.set v.toNat false) l)with
 |false=>
  intro l hl
  by_cases hm:z0i v l=true
  ·have hlu:l∈uOf L v:=List.mem_filter.2 ⟨hl,hm⟩
   have:=List.any_eq_false.1 hu l hlu
   exact(z6h hN.2 (hset l hl) (hlen _)).1 (by simpa using this)
  ·have hlx:l∈xOf L v:=by unfold xOf;exact List.mem_filter.2 ⟨hl,by simpa using hm⟩
   obtain⟨_,h1,h2⟩:=q9t.1 hlx
   obtain⟨y,hy,ht⟩:=hx l ((z1j hs l).2 (.inl hlx))
   exact⟨y,hy,by rw[q3i hn (z7i hv1 (fun e=>h1 (e▸hy)) (fun e=>h2 (e▸hy)))];exact ht⟩
 |true=>
  rcases x1r hv1 (by omega) hn (x9z hc) hs hx with h|h
  ·exact h
  ·exfalso
   obtain⟨l,hl,hf⟩:=List.any_eq_true.1 hu
   have hlL:=(List.mem_filter.1 hl).1
   have:=(z6h hN.2 (hset l hlL) (hlen _)).2 (h l hlL)
   rw[this]at hf
   cases hf
end
end Go.Proofs.YteikjpbbhopkaaaGreatDoor.Cn
namespace Go.Proofs.YteikjpbbhopkaaaGreatDoor.Cn
open Go
abbrev Und:=Int×List (List Int)
def elM (g:Int) (X:List (List Int)):Int:=min 65536 ((X.length:Int)+g)
def z0q (fz:List Int) (X:List (List Int)) (v:Int):Bool:=fz.contains v|| !(X.any (z0i v))
def q8s (fz:List Int) (g:Int) (s:List (List Int)×List Und) (v:Int):List (List Int)×List Und:=
 if z0q fz s.1 v=true then s else if((q2r s.1 v (elM g s.1)).length:Int)≤elM g s.1 then(q2r s.1 v (elM g s.1),s.2++[(v,uOf s.1 v)])else s
def q2o (L:List (List Int)) (fz:List Int) (g:Int):Nat→List (List Int)×List Und
 |0=>(L,[])
 |k+1=>q8s fz g (q2o L fz g k) ((k:Int)+1)
section
variable {N g v:Int} {X L:List (List Int)} {fz:List Int} {U:List Und} {k:Nat}
theorem k4p {m1 m2:Int} (h:((q2r X v m1).length:Int)≤m1) (h2:m1≤m2):q2r X v m2=q2r X v m1:=by
 have e1:=j5b (many:=m1) (acc:=xOf X v) (ls:=q7x (q0l (uOf X v) v) (q0l (uOf X v) (-v)) v (q0l (uOf X v) v).length) h
 have e1':q2r X v m1=xOf X v++q7x (q0l (uOf X v) v) (q0l (uOf X v) (-v)) v (q0l (uOf X v) v).length:=e1
 have e2:=j4s (many:=m2) (acc:=xOf X v) (r1:=q7x (q0l (uOf X v) v) (q0l (uOf X v) (-v)) v (q0l (uOf X v) v).length) (r2:=[]) (.inr (by rw[←e1'];omega))
 rw[Qf5,z7s]at e2
 rw[e1']
 exact e2
theorem k7u {m1 m2:Int} (h:((q2r X v m2).length:Int)≤m1) (h2:m1≤m2):q2r X v m1=q2r X v m2:=by
 have e1:=j5b (many:=m2) (acc:=xOf X v) (ls:=q7x (q0l (uOf X v) v) (q0l (uOf X v) (-v)) v (q0l (uOf X v) v).length) (show((q2r X v m2).length:Int)≤m2 by omega)
 have e1':q2r X v m2=xOf X v++q7x (q0l (uOf X v) v) (q0l (uOf X v) (-v)) v (q0l (uOf X v) v).length:=e1
 have e2:=j4s (many:=m1) (acc:=xOf X v) (r1:=q7x (q0l (uOf X v) v) (q0l (uOf X v) (-v)) v (q0l (uOf X v) v).length) (r2:=[]) (.inr (by rw[←e1'];omega))
 rw[Qf5,z7s]at e2
 rw[e1']
 exact e2
theorem step_skip {s:List (List Int)×List Und} (h:z0q fz s.1 v=true):q8s fz g s v=s:=if_pos h
theorem q7d {s:List (List Int)×List Und} (h:z0q fz s.1 v=false) (h2:((q2r s.1 v (elM g s.1)).length:Int)≤elM g s.1):q8s fz g s v=(q2r s.1 v (elM g s.1),s.2++[(v,uOf s.1 v)]):=by
 unfold q8s;rw[if_neg (by rw[h];simp),if_pos h2]
theorem z1d {s:List (List Int)×List Und} (h:z0q fz s.1 v=false) (h2:¬((q2r s.1 v (elM g s.1)).length:Int)≤elM g s.1):q8s fz g s v=s:=by
 unfold q8s;rw[if_neg (by rw[h];simp),if_neg h2]
theorem k5u {s:List (List Int)×List Und} (h:z0q fz s.1 v=false) (h1:((q2r s.1 v 65536).length:Int)≤65536) (h2:((q2r s.1 v 65536).length:Int)≤(s.1.length:Int)+g):q8s fz g s v=(q2r s.1 v 65536,s.2++[(v,uOf s.1 v)]):=by
 have hm:elM g s.1≤65536:=by unfold elM;omega
 have he:q2r s.1 v (elM g s.1)=q2r s.1 v 65536:=k7u (by unfold elM;omega) hm
 rw[q7d h (by rw[he];unfold elM;omega),he]
theorem x4o {s:List (List Int)×List Und} (h:z0q fz s.1 v=false) (h1:¬(((q2r s.1 v 65536).length:Int)≤65536∧((q2r s.1 v 65536).length:Int)≤(s.1.length:Int)+g)):q8s fz g s v=s:=by
 refine z1d h fun h2=>h1 ?_
 rw[k4p h2 (by unfold elM;omega)]
 unfold elM at h2⊢
 omega
theorem q7q:q2o L fz g (k+1)=q8s fz g (q2o L fz g k) ((k:Int)+1):=rfl
theorem z3p (fz:List Int) (g:Int) (s:List (List Int)×List Und) (v:Int):q8s fz g s v=s∨(fz.contains v=false∧s.1.any (z0i v)=true∧((q2r s.1 v 65536).length:Int)≤65536∧((q2r s.1 v 65536).length:Int)≤(s.1.length:Int)+g∧q8s fz g s v=(q2r s.1 v 65536,s.2++[(v,uOf s.1 v)])):=by
 cases hs:z0q fz s.1 v with
 |true=>exact .inl (step_skip hs)
 |false=>
  by_cases h1:((q2r s.1 v 65536).length:Int)≤65536∧((q2r s.1 v 65536).length:Int)≤(s.1.length:Int)+g
  ·right
   have hs':=hs
   unfold z0q at hs'
   rw[Qc5]at hs'
   exact⟨hs'.1,by simpa using hs'.2,h1.1,h1.2,k5u hs h1.1 h1.2⟩
  ·exact .inl (x4o hs h1)
def j2p (x:Int):Nat:=2*x.natAbs+if x<0 then 1 else 0
theorem u8m {x y:Int} (h:ahd x y=true):j2p x<j2p y:=by
 rw[q7v]at h
 unfold j2p
 split<;>split<;>omega
theorem x9y {M:Nat}:∀{l:List Int} {m:Nat},Str l→(∀x∈l,m≤j2p x)→(∀x∈l,j2p x≤M)→l.length≤M+1-m
 |[],m,_,_,_=>Qc1 _
 |x::l,m,hs,h1,h2=>by
  have hs':=List.pairwise_cons.1 hs
  have hx1:=h1 x Qb4
  have hx2:=h2 x Qb4
  have:=x9y (l:=l) (m:=m+1) hs'.2 (fun y hy=>by have:=u8m (hs'.1 y hy);omega) (fun y hy=>h2 y (Qb7 _ hy))
  rw[Qa8]
  omega
theorem u2j {N:Nat} {l:List Int} (hs:Str l) (hb:∀x∈l,x.natAbs≤N):l.length≤2*N+2:=by
 have:=x9y (M:=2*N+1) (m:=0) hs (fun _ _=>Qc1 _) (fun x hx=>by have:=hb x hx;unfold j2p;split<;>omega)
 omega
theorem k7l (a b:List Int) (v:Int):Str (q3w a b v):=by
 have h0:Str []:=List.Pairwise.nil
 unfold q3w
 split
 ·split
  ·exact z6b _
  ·split
   ·exact z6b _
   ·exact h0
 ·exact h0
def Good (N:Int) (X:List (List Int)):Prop:=∀l∈X,Rng N l∧l.length≤100
theorem x1l {m:Int} (hN:N≤30) (hv1:1≤v) (hv2:v≤N) (h:Good N X):Good N (q2r X v m):=by
 intro l hl
 rcases x8a hl with h1|⟨a,b,ha,hb,_,rfl⟩
 ·exact h l h1
 ·have hr:Rng N (q3w a b v):=fun y hy=>by
   rcases((q7h hv1 (by omega) ha hb).1 hy).1 with h1|h1
   ·exact(h a (x6s ha)).1 y h1.1
   ·exact(h b (k1u hb)).1 y h1.1
  refine⟨hr,?_⟩
  have:=u2j (N:=30) (k7l a b v) fun x hx=>by have:=(q5f.1 (hr x hx)).2;omega
  omega
theorem y9y (hN:N≤30) (hL:Good N L) (hl:L.length≤61) (hg0:0≤g) (hg:g≤40):∀k:Nat,(k:Int)≤N→Good N (q2o L fz g k).1∧(q2o L fz g k).1.length≤61+40*k∧(q2o L fz g k).2.length≤k∧∀u∈(q2o L fz g k).2,u.2.length≤61+40*k∧∀l∈u.2,l.length≤100
 |0,_=>⟨hL,by simpa[q2o]using hl,by simp[q2o],by simp[q2o]⟩
 |k+1,hk=>by
  obtain⟨h1,h2,h3,h4⟩:=y9y hN hL hl hg0 hg k (by omega)
  rw[q7q]
  rcases z3p fz g (q2o L fz g k) ((k:Int)+1)with e|⟨_,_,ha,hb,e⟩
  ·rw[e];exact⟨h1,by omega,by omega,fun u hu=>⟨by have:=(h4 u hu).1;omega,(h4 u hu).2⟩⟩
  ·rw[e]
   refine⟨x1l hN (by omega) (by omega) h1,?_,?_,?_⟩
   ·show(q2r _ _ _).length≤_;omega
   ·show(_++[_]).length≤_;rw[Qa3];simp;omega
   ·intro u hu
    rcases List.mem_append.1 hu with h|h
    ·exact⟨by have:=(h4 u h).1;omega,(h4 u h).2⟩
    ·rw[Qe0]at h
     subst h
     refine⟨?_,fun l hl=>(h1 l (List.mem_filter.1 hl).1).2⟩
     have:=y7i (c:=(q2o L fz g k).1) (v:=(k:Int)+1)
     show(uOf _ _).length≤_
     omega
theorem j6a (hc:q3x N L=0) (hs:∀l∈L,l.length≤100):Good N L:=fun l hl=>⟨(q6b.1 hc).2.1 l hl,by have:=hs l hl;omega⟩
theorem k7o (hN0:0≤N) (hN:N≤30) (h:Good N X) (hl:X.length≤65536):q3x N X=0:=q6b.2 ⟨⟨hN0,by omega⟩,fun l hl=>(h l hl).1,hl⟩
end
def j3i (N:Int) (v:Int):Bool:=decide (v<1)||decide (N<v)
def elE (N:Int) (L:List (List Int)) (fz:List Int) (g:Int):Int:=if q3x N L≠0 then q3x N L else if(decide (g<0)||decide (1099511627776<g)||fz.any (j3i N))=true then 1 else 0
def elN (N:Int) (L:List (List Int)) (fz:List Int) (g:Int):Int:=if elE N L fz g=0 then N else 0
def elX (N:Int) (L:List (List Int)) (fz:List Int) (g:Int):List (List Int):=if elE N L fz g=0 then(q2o L fz g N.toNat).1 else[]
def elU (N:Int) (L:List (List Int)) (fz:List Int) (g:Int):List Und:=if elE N L fz g=0 then(q2o L fz g N.toNat).2 else[]
section
variable {N g e:Int} {L:List (List Int)} {fz:List Int}
theorem u5q (h:elE N L fz g=e) (h0:e≠0):elN N L fz g=0∧elX N L fz g=[]∧elU N L fz g=[]∧elE N L fz g=e:=by
 unfold elN elX elU
 rw[h,if_neg h0,if_neg h0,if_neg h0]
 exact⟨rfl,rfl,rfl,rfl⟩
theorem k9d (h:q3x N L≠0):elE N L fz g=q3x N L:=if_pos h
theorem u1o (h:q3x N L=0) (h2:(decide (g<0)||decide (1099511627776<g)||fz.any (j3i N))=true):elE N L fz g=1:=by
 unfold elE;rw[if_neg (fun e=>e h),if_pos h2]
theorem v2c (h:q3x N L=0) (h2:(decide (g<0)||decide (1099511627776<g)||fz.any (j3i N))=false):elE N L fz g=0:=by
 unfold elE;rw[if_neg (fun e=>e h),if_neg (by rw[h2];simp)]
theorem k2j (h:elE N L fz g=0):elN N L fz g=N∧elX N L fz g=(q2o L fz g N.toNat).1∧elU N L fz g=(q2o L fz g N.toNat).2∧elE N L fz g=0:=by
 unfold elN elX elU
 rw[h]
 exact⟨rfl,rfl,rfl,rfl⟩
theorem x1a (h:elE N L fz g=0):q3x N L=0∧0≤g∧g≤1099511627776∧fz.any (j3i N)=false:=by
 have hc:q3x N L=0:=by
  by_cases hc:q3x N L=0
  ·exact hc
  ·rw[k9d hc]at h;exact h
 have h2:(decide (g<0)||decide (1099511627776<g)||fz.any (j3i N))=false:=by
  cases hb:(decide (g<0)||decide (1099511627776<g)||fz.any (j3i N))with
  |false=>rfl
  |true=>rw[u1o hc hb]at h;cases h
 simp only[Qc5,decide_eq_false_iff_not]at h2
 exact⟨hc,by omega,by omega,h2.2⟩
end
end Go.Proofs.YteikjpbbhopkaaaGreatDoor.Cn
