/- Lemmas and contracts for the row. -/
import Derived.Test.YteikjpbbhopkaaaGreatDoorPkRowElimGatesX
set_option linter.unusedVariables false
set_option linter.unusedSimpArgs false
set_option linter.unnecessarySimpa false
namespace Go.Proofs.YteikjpbbhopkaaaGreatDoor.Fl
open Go En
mutual
def q2a:Tree→Nat
 |.node _ _ _ l=>1+q0p l
def q0p:List Tree→Nat
 |[]=>0
 |t::l=>q2a t+q0p l
end
theorem y9p (t:Tree):1≤q2a t:=by cases t;simp only[q2a];omega
theorem z5q:∀{l:List Tree} {t:Tree},t∈l→q2a t≤q0p l
 |[],_,h=>by cases h
 |x::l,t,h=>by
  simp only[q0p]
  rcases List.mem_cons.1 h with h|h
  ·subst h;omega
  ·have:=z5q h;omega
theorem size_at {t:Tree} {i:Nat} (h:i<t.l.length):q2a (t.l.getD i q0a)<q2a t:=by
 cases t with
 |node a b c l=>
  have h1:l.getD i q0a∈l:=by rw[Qa1,Qa0 (show i<l.length from h)];exact Qc7 _
  have:=z5q h1
  simp only[q2a,Tree.l]at*
  omega
def y9z (a:List Bool) (kind v k:Int) (bs:List Bool):Bool:=
 if kind=1 then v==1 else if kind=2 then(decide (1≤v)&&decide (v<a.length))&&a.getD v.toNat false else
 if kind=3 then(bs.countP id:Int)==0 else if kind=4 then(bs.countP id:Int)==bs.length else if kind=5 then decide ((bs.countP id:Int)>0)else if kind=6 then decide ((bs.countP id:Int)≥k)else false
mutual
def q3l (a:List Bool):Tree→Bool
 |.node kind v k l=>y9z a kind v k (x2g a l)
def x2g (a:List Bool):List Tree→List Bool
 |[]=>[]
 |t::l=>q3l a t::x2g a l
end
theorem j7a (a:List Bool):∀l:List Tree,x2g a l=l.map (q3l a)
 |[]=>rfl
 |t::l=>by rw[x2g,j7a a l];rfl
theorem x0i (a:List Bool) (t:Tree):q3l a t=y9z a t.kind t.v t.k (t.l.map (q3l a)):=by
 cases t with
 |node kind v k l=>rw[q3l,j7a];rfl
def z1p (a:List Bool) (kind v k:Int) (l:List Tree):Bool:=y9z a kind v k (l.map (q3l a))
theorem j8j (a:List Bool) (t:Tree):z1p a t.kind t.v t.k t.l=q3l a t:=(x0i a t).symm
theorem z1z {l:List Tree} {i:Nat} (h:i<l.length):q0p (l.getD i q0a).l<q0p l:=by
 have h1:l.getD i q0a∈l:=by rw[Qa1,Qa0 h];exact Qc7 _
 have h2:=z5q h1
 revert h2
 cases l.getD i q0a with
 |node a b c m=>simp only[q2a,Tree.l];omega
def k8u (a:List Bool) (l:List Tree) (k:Nat):Nat:=(l.take k).countP (q3l a)
end Go.Proofs.YteikjpbbhopkaaaGreatDoor.Fl
namespace Go.Proofs.YteikjpbbhopkaaaGreatDoor.Fl
open Go En
def q5o (n kind v k:Int) (len:Nat):Bool:=
 if kind=1 then(v==0||v==1)&&k==0&&len==0 else if kind=2 then decide (1≤v)&&decide (v≤n)&&k==0&&len==0 else
 if kind=3 then v==0&&k==0&&len==1 else if kind=4∨kind=5 then v==0&&k==0 else if kind=6 then v==0&&decide (0≤k)&&decide (k≤1099511627776)else false
mutual
def x5i (n:Int):Tree→Bool
 |.node kind v k l=>q5o n kind v k l.length&&x2h n l
def x2h (n:Int):List Tree→Bool
 |[]=>true
 |t::l=>x5i n t&&x2h n l
end
theorem x1q (n:Int):∀l:List Tree,x2h n l=l.all (x5i n)
 |[]=>rfl
 |t::l=>by rw[x2h,x1q n l];rfl
theorem k0u (n kind v k:Int) (l:List Tree):x5i n (.node kind v k l)=(q5o n kind v k l.length&&l.all (x5i n)):=by rw[x5i,x1q]
theorem x1y {P:Tree→Prop} (h:∀kind v k l,(∀x∈l,P x)→P (.node kind v k l)):∀t,P t:=by
 have key:∀m t,q2a t≤m→P t:=fun m=>by
  induction m with
  |zero=>intro t ht;have:=y9p t;omega
  |succ m ih=>
   intro t ht
   cases t with
   |node kind v k l=>
    refine h kind v k l fun x hx=>ih x ?_
    have:=z5q hx
    simp only[q2a]at ht
    omega
 exact fun t=>key _ t (Qb8 _)
def cst (b:Int):Tree:=.node 1 b 0 []
def v3i (kind:Int) (l:List Tree):List Tree:=l.flatMap fun x=>if x.kind=kind then x.l else if x.kind=1 then[]else[x]
def k5b (kind whole:Int) (l:List Tree):Tree:=
 if(l.any fun x=>x.kind==1&&x.v !=whole)=true then cst (1-whole)else
 match v3i kind l with
 |[]=>cst whole
 |[x]=>x
 |x::y::m=>.node kind 0 0 (x::y::m)
def k0w (l:List Tree):List Tree:=l.filter fun x=>x.kind !=1
def x5o (l:List Tree):Nat:=l.countP fun x=>x.kind==1&&x.v==1
def u9m (k:Int) (l:List Tree):Tree:=
 if k-(x5o l:Int)≤0 then cst 1 else if k-(x5o l:Int)>(k0w l).length then cst 0 else
 if k-(x5o l:Int)=(k0w l).length then k5b 4 1 (k0w l)else if k-(x5o l:Int)=1 then k5b 5 0 (k0w l)else .node 6 0 (k-(x5o l:Int)) (k0w l)
def v1p (kind v k:Int) (l m:List Tree):Tree:=
 if kind=3 then(if(m.getD 0 q0a).kind=1 then cst (1-(m.getD 0 q0a).v)else if(m.getD 0 q0a).kind=3 then(m.getD 0 q0a).l.getD 0 q0a else .node 3 0 0 m)else
 if kind=4 then k5b 4 1 m else if kind=5 then k5b 5 0 m else if kind=6 then u9m k m else .node kind v k l
mutual
def v1j:Tree→Tree
 |.node kind v k l=>v1p kind v k l (u0p l)
def u0p:List Tree→List Tree
 |[]=>[]
 |t::l=>v1j t::u0p l
end
variable {a:List Bool} {n v k:Int} {l m:List Tree} {x:Tree}
theorem j3x (kind:Int):q3l a (.node kind v k l)=y9z a kind v k (l.map (q3l a)):=by rw[x0i];rfl
theorem u9h:q3l a (.node 5 v k l)=l.any (q3l a):=by
 rw[j3x]
 unfold y9z
 rw[if_neg (by decide),if_neg (by decide),if_neg (by decide),if_neg (by decide),if_pos rfl,Qh3,decide_eq_true_iff,Qf7]
 rw[show((((l.map (q3l a)).countP id:Nat):Int)>0)↔0<(l.map (q3l a)).countP id by omega,List.countP_pos_iff]
 simp
theorem x7f:q3l a (.node 6 v k l)=decide (((l.countP (q3l a):Nat):Int)≥k):=by
 rw[j3x]
 unfold y9z
 rw[if_neg (by decide),if_neg (by decide),if_neg (by decide),if_neg (by decide),if_neg (by decide),if_pos rfl,Qp2]
 rfl
end Go.Proofs.YteikjpbbhopkaaaGreatDoor.Fl
namespace Go.Proofs.YteikjpbbhopkaaaGreatDoor.Fl
open Go En
variable {n v k:Int} {l m:List Tree} {x:Tree}
theorem x7n (kind v k:Int) (l:List Tree):q2a (.node kind v k l)=1+q0p l:=by rw[q2a]
def nfH (kind k:Int) (l:List Tree):Bool:=
 if kind=2 then true else if kind=3 then l.length==1&&(l.getD 0 q0a).kind !=3 else
 if kind=6 then decide (1<k)&&decide (k<l.length)else if kind=4∨kind=5 then decide (2≤l.length)&&l.all (fun x=>x.kind !=kind)else false
mutual
def nfT:Tree→Bool
 |.node kind v k l=>nfH kind k l&&(kind==2||v2j l)
def v2j:List Tree→Bool
 |[]=>true
 |t::l=>nfT t&&v2j l
end
end Go.Proofs.YteikjpbbhopkaaaGreatDoor.Fl
namespace Go.Proofs.YteikjpbbhopkaaaGreatDoor.Fl
open Go En
variable {a:List Bool} {n v k:Int} {l m:List Tree} {x:Tree}
mutual
def v0f:Tree→List Int
 |.node kind v _ l=>(if kind=2 then[v]else[])++u8q l
def u8q:List Tree→List Int
 |[]=>[]
 |t::l=>v0f t++u8q l
end
mutual
def v3k (n c:Int):Tree→Tree
 |.node kind v k l=>if kind=2∧v=n then cst c else .node kind v k (u7n n c l)
def u7n (n c:Int):List Tree→List Tree
 |[]=>[]
 |t::l=>v3k n c t::u7n n c l
end
end Go.Proofs.YteikjpbbhopkaaaGreatDoor.Fl
namespace Go.Proofs.YteikjpbbhopkaaaGreatDoor.Fl
open Go En
mutual
def x3n:Tree→Prop
 |.node _ _ _ l=>l.length≤2932031007317∧q2b l
def q2b:List Tree→Prop
 |[]=>True
 |t::l=>x3n t∧q2b l
end
theorem u0e {t:Tree}:x3n t↔t.l.length≤2932031007317∧q2b t.l:=by cases t with|node a b c l=>simp only[x3n,Tree.l]
theorem x1f:∀{l:List Tree} {t:Tree},q2b l→t∈l→x3n t
 |[],_,_,h=>by cases h
 |x::l,t,hl,h=>by
  simp only[q2b]at hl
  rcases List.mem_cons.1 h with h|h
  ·subst h;exact hl.1
  ·exact x1f hl.2 h
theorem z8f {l:List Tree} {i:Nat} (h:q2b l) (hi:i<l.length):(l.getD i q0a).l.length≤2932031007317∧q2b (l.getD i q0a).l:=
 u0e.1 (x1f h (by rw[Qa1,Qa0 hi];exact Qc7 _))
mutual
def u3m:Tree→Tree→Bool
 |.node a b c l,.node a' b' c' l'=>(a==a'&&b==b'&&c==c')&&y7f l l'
def y7f:List Tree→List Tree→Bool
 |[],[]=>true
 |x::l,y::m=>u3m x y&&y7f l m
 |[],_::_=>false
 |_::_,[]=>false
end
mutual
theorem x8d:∀x y:Tree,u3m x y=true↔x=y
 |.node a b c l,.node a' b' c' l'=>by
  have h:=j3c l l'
  rw[u3m,Qa2,h]
  simp[and_assoc]
theorem j3c:∀l m:List Tree,y7f l m=true↔l=m
 |[],[]=>by simp[y7f]
 |x::l,y::m=>by
  have h1:=x8d x y
  have h2:=j3c l m
  rw[y7f,Qa2,h1,h2]
  simp
 |[],_::_=>by simp[y7f]
 |_::_,[]=>by simp[y7f]
end
theorem x0y (x:Tree):Tree.node x.kind x.v x.k x.l=x:=by cases x;rfl
section
variable {q v k q' v' k':Int} {l l':List Tree}
end
end Go.Proofs.YteikjpbbhopkaaaGreatDoor.Fl
namespace Go.Proofs.YteikjpbbhopkaaaGreatDoor.Fl
open Go En
mutual
def q0v:Tree→List Tree
 |.node q v k l=>.node q v k l::q3c l
def q3c:List Tree→List Tree
 |[]=>[]
 |t::l=>q0v t++q3c l
end
theorem z3q (t:Tree):q0v t=t::q3c t.l:=by cases t with|node a b c l=>rw[q0v];rfl
theorem j9n (t:Tree):q2a t=1+q0p t.l:=by cases t with|node a b c l=>rw[q2a];rfl
theorem z3b:∀l:List Tree,q0p l=(l.map q2a).sum
 |[]=>rfl
 |x::l=>by rw[q0p,z3b l];rfl
theorem q9e:∀t:Tree,(q0v t).length=q2a t:=x1y fun q v k l ih=>by
 rw[z3q,j9n]
 have h:∀m:List Tree,(∀x∈m,(q0v x).length=q2a x)→(q3c m).length=q0p m:=fun m=>by
  induction m with
  |nil=>intro _;rfl
  |cons x m ihm=>intro hm;rw[q3c,q0p,Qa3,hm x (by simp),ihm fun y hy=>hm y (by simp[hy])]
 show(_::q3c l).length=1+q0p l
 rw[Qa8,h l ih];omega
theorem j2o:∀l m:List Tree,q3c (l++m)=q3c l++q3c m
 |[],m=>rfl
 |x::l,m=>by rw[Qc9,q3c,q3c,j2o l m,Qc4]
theorem j9k (l m:List Tree):q0p (l++m)=q0p l+q0p m:=by rw[z3b,z3b,z3b,Qd4,List.sum_append]
theorem j3h (l:List Tree):(q3c l).length=q0p l:=by
 have h:=q9e (.node 0 0 0 l)
 rw[z3q,j9n]at h
 simp only[Qa8]at h
 show(q3c (Tree.node 0 0 0 l).l).length=q0p (Tree.node 0 0 0 l).l
 omega
theorem q4s {l:List Tree} {k:Nat} (h:k<l.length):q0p (l.take (k+1))=q0p (l.take k)+q2a (l.getD k q0a):=by
 rw[Qb9 h,j9k,Qa1,Qa0 h]
 simp[q0p]
theorem y2m {l:List Tree} (k:Nat):q0p (l.take k)≤q0p l:=by
 have h:=j9k (l.take k) (l.drop k)
 rw[Qi0]at h;omega
theorem j9g {l:List Tree} {k j:Nat} (h:k<l.length) (hj:j<q2a (l.getD k q0a)):q0p (l.take k)+j<q0p l:=by
 have h1:=q4s h
 have h2:=y2m (l:=l) (k+1)
 omega
theorem k7c {l:List Tree} {k j:Nat} (h:k<l.length) (hj:j<q2a (l.getD k q0a)):(q3c l).getD (q0p (l.take k)+j) q0a=(q0v (l.getD k q0a)).getD j q0a:=by
 have e:l=l.take k++(l.getD k q0a::l.drop (k+1)):=by
  rw[Qa1,Qa0 h]
  simp
 have h1:q3c l=q3c (l.take k)++(q0v (l.getD k q0a)++q3c (l.drop (k+1))):=by
  conv=>lhs;rw[e]
  rw[j2o,q3c]
 rw[h1]
 generalize l.getD k q0a=x at hj⊢
 rw[Qa1,Qa1,Qe5 (by rw[j3h];omega),j3h,show q0p (l.take k)+j-q0p (l.take k)=j by omega,Qe3 (by rw[q9e];exact hj)]
theorem y0e {l:List Tree} {i:Nat}:∀m,m≤l.length→i<q0p (l.take m)→∃k j,k<m∧j<q2a (l.getD k q0a)∧i=q0p (l.take k)+j
 |0,_,h=>by simp[q0p]at h
 |m+1,hm,h=>by
  have h1:=q4s (l:=l) (k:=m) (by omega)
  by_cases hc:i<q0p (l.take m)
  ·obtain⟨k,j,h2,h3,h4⟩:=y0e m (by omega) hc
   exact⟨k,j,by omega,h3,h4⟩
  ·exact⟨m,i-q0p (l.take m),by omega,by omega,by omega⟩
def cat {α:Type} (f:Nat→List α):Nat→List α
 |0=>[]
 |k+1=>cat f k++f k
theorem y6f {α:Type} {f:Nat→List α} {l:List Tree}:∀k,k≤l.length→(∀i,i<l.length→(f i).length=q2a (l.getD i q0a))→(cat f k).length=q0p (l.take k)
 |0,_,_=>by simp[cat,q0p]
 |k+1,hk,h=>by rw[cat,Qa3,y6f k (by omega) h,h k (by omega),q4s (by omega)]
theorem k2m {α:Type} {f:Nat→List α} {k:Nat}:∀m,k≤m→∃r,cat f m=cat f k++r
 |0,h=>⟨[],by rw[show k=0 by omega];rfl⟩
 |m+1,h=>by
  by_cases e:k=m+1
  ·exact⟨[],by rw[e,Qf5]⟩
  ·obtain⟨r,hr⟩:=k2m (f:=f) (k:=k) m (by omega)
   exact⟨r++f m,by rw[cat,hr,Qc4]⟩
theorem k9x {α:Type} {f:Nat→List α} {l:List Tree} {d:α} (h:∀i,i<l.length→(f i).length=q2a (l.getD i q0a)) {k j:Nat} (hk:k<l.length) (hj:j<q2a (l.getD k q0a)):
 (cat f l.length).getD (q0p (l.take k)+j) d=(f k).getD j d:=by
 obtain⟨r,hr⟩:=k2m (f:=f) (k:=k+1) l.length (by omega)
 have hl:=y6f (f:=f) k (by omega) h
 rw[hr,cat,Qa1,Qa1,Qc4,Qe5 (by omega),hl,show q0p (l.take k)+j-q0p (l.take k)=j by omega,Qe3 (by rw[h k hk];exact hj)]
end Go.Proofs.YteikjpbbhopkaaaGreatDoor.Fl
namespace Go.Proofs.YteikjpbbhopkaaaGreatDoor.Fl
open Go En
variable {a:List Bool} {q v k:Int} {l:List Tree}
theorem vn1 (h:q=1):(v==1)=z1p a q v k l:=by unfold z1p y9z;rw[if_pos h]
theorem vn2 (h1:¬q=1) (h:q=2):((decide (1≤v)&&decide (v<(a.length:Int)))&&a.getD v.toNat false)=z1p a q v k l:=by unfold z1p y9z;rw[if_neg h1,if_pos h]
theorem u5w (h1:¬q=1) (h:q=2):((decide (0<v)&&decide (v<(a.length:Int)))&&a.getD v.toNat false)=z1p a q v k l:=vn2 h1 h
theorem k3s (h:q=q):z1p a q v k l=q3l a (.node q v k l):=(j3x q).symm
theorem vn3 (h:q=3):(!(l.any (q3l a)))=z1p a q v k l:=by
 subst h
 unfold z1p y9z
 rw[if_neg (by decide),if_neg (by decide),if_pos rfl,Qh3,Qd1,beq_iff_eq,Qi8,Qp2,show(0:Int)=((0:Nat):Int)from rfl,Int.natCast_inj,List.countP_eq_zero]
 rfl
theorem vn4 (h:q=4):(((l.filter (q3l a)).length:Int)==(l.length:Int))=z1p a q v k l:=by
 subst h
 unfold z1p y9z
 rw[if_neg (by decide),if_neg (by decide),if_neg (by decide),if_pos rfl,Qp2,Qa9,←Qo9]
 rfl
theorem vn5 (h:q=5):l.any (q3l a)=z1p a q v k l:=by
 subst h
 rw[k3s rfl,u9h]
theorem vn6 (h:q=6):decide (((l.filter (q3l a)).length:Int)≥k)=z1p a q v k l:=by
 subst h
 rw[k3s rfl,x7f,←Qo9]
theorem vn0 (h1:¬q=1) (h2:¬q=2) (h3:¬q=3) (h4:¬q=4) (h5:¬q=5) (h6:¬q=6):false=z1p a q v k l:=by
 unfold z1p y9z
 rw[if_neg h1,if_neg h2,if_neg h3,if_neg h4,if_neg h5,if_neg h6]
theorem y7z {i:Nat} (hi:i<l.length) (h:q3l a (l.getD i q0a)=true):((l.take i).filter (q3l a))++[l.getD i q0a]=(l.take (i+1)).filter (q3l a):=by
 have e:l[i]=l.getD i q0a:=by rw[Qa1,Qa0 hi];rfl
 rw[Qb9 hi,Qe1,e,Ql0,h];rfl
theorem k0h {i:Nat} (hi:i<l.length) (h:q3l a (l.getD i q0a)=false):((l.take i).filter (q3l a))=(l.take (i+1)).filter (q3l a):=by
 have e:l[i]=l.getD i q0a:=by rw[Qa1,Qa0 hi];rfl
 rw[Qb9 hi,Qe1,e,Ql0,h];simp
end Go.Proofs.YteikjpbbhopkaaaGreatDoor.Fl
namespace Go.Proofs.YteikjpbbhopkaaaGreatDoor.Fl
open Go En
variable {n q v k:Int} {len:Nat} {l:List Tree}
theorem u7m (m:Nat):((len:Int)==(m:Int))=(len==m):=by rw[Qh3,beq_iff_eq,beq_iff_eq];omega
theorem k9v:((len:Int)==0)=(len==0):=u7m 0
theorem u7q:((len:Int)==1)=(len==1):=u7m 1
theorem fm0 (h:((q !=6)&&(k !=0))=true):false=q5o n q v k len:=by
 simp only[Qa2,bne_iff_ne]at h
 have hk:(k==0)=false:=by rw[beq_eq_false_iff_ne];exact h.2
 unfold q5o
 simp[hk,h.1]
theorem k0 (h:((q !=6)&&(k !=0))=false) (h6:q≠6):k=0:=by
 rw[bne_iff_ne.2 h6]at h
 simpa using h
theorem fm1 (hk:((q !=6)&&(k !=0))=false) (h:q=1):(((v==0)||(v==1))&&((len:Int)==0))=q5o n q v k len:=by
 rw[k0 hk (by omega),h,k9v];unfold q5o;simp
theorem fm2 (hk:((q !=6)&&(k !=0))=false) (h1:¬q=1) (h:q=2):((decide (1≤v)&&decide (v≤n))&&((len:Int)==0))=q5o n q v k len:=by
 rw[k0 hk (by omega),h,k9v];unfold q5o;simp
theorem fm3 (hk:((q !=6)&&(k !=0))=false) (h:q=3):((v==0)&&((len:Int)==1))=q5o n q v k len:=by
 rw[k0 hk (by omega),h,u7q];unfold q5o;simp
theorem fm4 (hk:((q !=6)&&(k !=0))=false) (h:q=4∨q=5):(v==0)=q5o n q v k len:=by
 rw[k0 hk (by omega)];unfold q5o;rw[if_neg (by omega),if_neg (by omega),if_neg (by omega),if_pos h];simp
theorem fm6 (h:q=6):(((v==0)&&decide (0≤k))&&decide (k≤1099511627776))=q5o n q v k len:=by
 rw[h];unfold q5o;simp
theorem fm9 (h1:¬q=1) (h2:¬q=2) (h3:¬q=3) (h4:¬q=4) (h5:¬q=5) (h6:¬q=6):false=q5o n q v k len:=by
 unfold q5o;rw[if_neg h1,if_neg h2,if_neg h3,if_neg (by omega),if_neg h6]
def u3w (n q v k:Int) (l:List Tree):Bool:=q5o n q v k l.length&&l.all (x5i n)
end Go.Proofs.YteikjpbbhopkaaaGreatDoor.Fl
namespace Go.Proofs.YteikjpbbhopkaaaGreatDoor.Fl
open Go En
end Go.Proofs.YteikjpbbhopkaaaGreatDoor.Fl
namespace Go.Proofs.YteikjpbbhopkaaaGreatDoor.Fl
open Go En
variable {kind whole:Int} {l:List Tree} {i:Nat}
end Go.Proofs.YteikjpbbhopkaaaGreatDoor.Fl
namespace Go.Proofs.YteikjpbbhopkaaaGreatDoor.Fl
open Go En
variable {k:Int} {l:List Tree} {i:Nat}
end Go.Proofs.YteikjpbbhopkaaaGreatDoor.Fl
namespace Go.Proofs.YteikjpbbhopkaaaGreatDoor.Fl
open Go En
variable {q v k:Int} {l:List Tree} {i:Nat}
end Go.Proofs.YteikjpbbhopkaaaGreatDoor.Fl
namespace Go.Proofs.YteikjpbbhopkaaaGreatDoor.Fl
open Go En
variable {n q v k:Int} {l:List Tree}
end Go.Proofs.YteikjpbbhopkaaaGreatDoor.Fl
namespace Go.Proofs.YteikjpbbhopkaaaGreatDoor.Fl
open Go En
variable {n q v k:Int} {l:List Tree}
def q8l (n:Int) (x:Tree):Bool:=q5o n x.kind x.v x.k x.l.length
theorem x6e:∀t,(q0v t).all (q8l n)=x5i n t:=x1y fun q v k l ih=>by
 rw[z3q,Qj8,k0u]
 have h:∀m:List Tree,(∀x∈m,(q0v x).all (q8l n)=x5i n x)→(q3c m).all (q8l n)=m.all (x5i n):=fun m=>by
  induction m with
  |nil=>intro _;rfl
  |cons x m ihm=>intro hm;rw[q3c,Qj0,Qj8,hm x (by simp),ihm fun y hy=>hm y (by simp[hy])]
 show(q8l n (.node q v k l)&&(q3c l).all (q8l n))=_
 rw[h l ih];rfl
theorem j1m:(q0v (.node q v k l)).all (q8l n)=u3w n q v k l:=by rw[x6e,k0u];rfl
theorem x7k {m:Nat} (hm:m=q2a (.node q v k l)) (h:∀j,j<m→q8l n ((q0v (.node q v k l)).getD j q0a)=true):u3w n q v k l=true:=by
 rw[←j1m,Qh1]
 intro x hx
 obtain⟨j,hj,rfl⟩:=List.mem_iff_getElem.1 hx
 have:=h j (by rw[hm,←q9e];exact hj)
 rwa [Qa1,Qa0 hj]at this
end Go.Proofs.YteikjpbbhopkaaaGreatDoor.Fl
namespace Go.Proofs.YteikjpbbhopkaaaGreatDoor.Gt
open Go En Fl
abbrev q7z:=List Int×List Int×Int
def y0k (l:List Int):List Int:=l.map fun x=> -x
def putG (x c:Int) (lits:List Int) (least:Int):q7z:=(c::List.replicate lits.length 1,x::lits,least)
def freshG (k:Int) (lits:List Int) (x:Int):List q7z:=
 if k≤0 then[putG x 1 [] 1]else if(lits.length:Int)<k then[putG (-x) 1 [] 1]else[putG (-x) k lits k,putG x ((lits.length:Int)-k+1) (y0k lits) ((lits.length:Int)-k+1)]
def kG (q v k:Int) (n:Nat):Int:=if q=1 then 1-v else if q=4 then n else if q=5 then 1 else k
def u5a (q v k:Int) (r:List Int×Int×List q7z):Int×Int×List q7z:=
 if q=3 then(-(r.1.getD 0 0),r.2)else(r.2.1,r.2.1+1,r.2.2++freshG (kG q v k r.1.length) r.1 r.2.1)
mutual
def gateT:Tree→Int→List q7z→Int×Int×List q7z
 |.node q v k l,nx,cs=>if q=2 then(v,nx,cs)else u5a q v k (gateL l nx cs)
def gateL:List Tree→Int→List q7z→List Int×Int×List q7z
 |[],nx,cs=>([],nx,cs)
 |t::l,nx,cs=>((gateT t nx cs).1::(gateL l (gateT t nx cs).2.1 (gateT t nx cs).2.2).1,(gateL l (gateT t nx cs).2.1 (gateT t nx cs).2.2).2)
end
mutual
def cntT:Tree→Nat
 |.node q _ _ l=>if q=2 then 0 else if q=3 then cntL l else cntL l+1
def cntL:List Tree→Nat
 |[]=>0
 |t::l=>cntT t+cntL l
end
mutual
def fitT (n:Int):Tree→Prop
 |.node q v k l=>q5o n q v k l.length=true∧l.length≤4095∧x3m n l
def x3m (n:Int):List Tree→Prop
 |[]=>True
 |t::l=>fitT n t∧x3m n l
end
section
variable {n nx q v k:Int} {l:List Tree} {cs:List q7z} {i:Nat} {t:Tree}
theorem y1a:∀(l m:List Tree) (nx:Int) (cs:List q7z),gateL (l++m) nx cs=((gateL l nx cs).1++(gateL m (gateL l nx cs).2.1 (gateL l nx cs).2.2).1,(gateL m (gateL l nx cs).2.1 (gateL l nx cs).2.2).2)
 |[],m,nx,cs=>by simp[gateL]
 |t::l,m,nx,cs=>by rw[Qc9,gateL,gateL,y1a l m];rfl
theorem takeD (h:i<l.length):l.take (i+1)=l.take i++[l.getD i q0a]:=by
 rw[Qb9 h,Qa1,Qa0 h];rfl
theorem z3i (h:i<l.length):gateL (l.take (i+1)) nx cs=((gateL (l.take i) nx cs).1++[(gateT (l.getD i q0a) (gateL (l.take i) nx cs).2.1 (gateL (l.take i) nx cs).2.2).1],(gateT (l.getD i q0a) (gateL (l.take i) nx cs).2.1 (gateL (l.take i) nx cs).2.2).2):=by
 rw[takeD h,y1a];rfl
theorem gateL_len:∀(l:List Tree) (nx:Int) (cs:List q7z),(gateL l nx cs).1.length=l.length
 |[],nx,cs=>rfl
 |t::l,nx,cs=>by rw[gateL];simp only[Qa8];rw[gateL_len l]
theorem z6j:∀l m:List Tree,cntL (l++m)=cntL l+cntL m
 |[],m=>by simp[cntL]
 |t::l,m=>by rw[Qc9,cntL,cntL,z6j l m];omega
theorem k5t (l:List Tree) (i:Nat):cntL (l.take i)≤cntL l:=by
 have:=z6j (l.take i) (l.drop i)
 rw[Qi0]at this;omega
theorem u8f (h:i<l.length):cntL (l.take i)+cntT (l.getD i q0a)≤cntL l:=by
 have h1:=k5t l (i+1)
 rw[takeD h,z6j]at h1
 simp only[cntL]at h1;omega
theorem y8z:∀{l:List Tree},x3m n l→∀t∈l,fitT n t
 |[],_,_,h=>by cases h
 |x::l,hl,t,h=>by
  simp only[x3m]at hl
  rcases List.mem_cons.1 h with h|h
  ·subst h;exact hl.1
  ·exact y8z hl.2 t h
theorem u8d (h:x3m n l) (hi:i<l.length):fitT n (l.getD i q0a):=y8z h _ (by rw[Qa1,Qa0 hi];exact Qc7 _)
mutual
theorem j1t:∀(t:Tree) (nx:Int) (cs:List q7z),(gateT t nx cs).2.1=nx+cntT t
 |.node q v k l,nx,cs=>by
  rw[gateT,cntT]
  have h:=next_L l nx cs
  split
  ·simp
  ·unfold u5a
   split
   ·exact h
   ·show(gateL l nx cs).2.1+1=_
    rw[h];omega
theorem next_L:∀(l:List Tree) (nx:Int) (cs:List q7z),(gateL l nx cs).2.1=nx+cntL l
 |[],nx,cs=>by simp[gateL,cntL]
 |t::l,nx,cs=>by
  rw[gateL,cntL]
  show(gateL l (gateT t nx cs).2.1 (gateT t nx cs).2.2).2.1=_
  rw[next_L l,j1t t];omega
end
theorem k0t (k:Int) (ls:List Int) (x:Int):(freshG k ls x).length≤2:=by
 unfold freshG;split
 ·simp
 ·split<;>simp
mutual
theorem k9s:∀(t:Tree) (nx:Int) (cs:List q7z),(gateT t nx cs).2.2.length≤cs.length+2*cntT t
 |.node q v k l,nx,cs=>by
  rw[gateT,cntT]
  have h:=cons_L l nx cs
  split
  ·simp
  ·unfold u5a
   split
   ·exact h
   ·show((gateL l nx cs).2.2++freshG _ _ _).length≤_
    rw[Qa3]
    have:=k0t (kG q v k (gateL l nx cs).1.length) (gateL l nx cs).1 (gateL l nx cs).2.1
    omega
theorem cons_L:∀(l:List Tree) (nx:Int) (cs:List q7z),(gateL l nx cs).2.2.length≤cs.length+2*cntL l
 |[],nx,cs=>by simp[gateL,cntL]
 |t::l,nx,cs=>by
  rw[gateL,cntL]
  show(gateL l (gateT t nx cs).2.1 (gateT t nx cs).2.2).2.2.length≤_
  have h1:=cons_L l (gateT t nx cs).2.1 (gateT t nx cs).2.2
  have h2:=k9s t nx cs
  omega
end
end
def k2g (nx:Int) (x:Int):Prop:=x≠0∧-nx<x∧x<nx
theorem k2g.up {a b x:Int} (h:k2g a x) (hab:a≤b):k2g b x:=⟨h.1,by have:=h.2;omega,by have:=h.2;omega⟩
mutual
theorem u8z {n:Int}:∀(t:Tree) (nx:Int) (cs:List q7z),fitT n t→1≤nx→n<nx→k2g (nx+cntT t) (gateT t nx cs).1
 |.node q v k l,nx,cs,hf,h1,hn=>by
  obtain⟨hm,_,hl⟩:=hf
  rw[gateT,cntT]
  by_cases h2:q=2
  ·rw[if_pos h2,if_pos h2]
   subst h2
   have hv:1≤v∧v≤n:=by
    simp[q5o]at hm
    omega
   exact⟨by show v≠0;omega,by show-_<v;simp;omega,by show v<_;simp;omega⟩
  ·rw[if_neg h2,if_neg h2]
   unfold u5a
   have hL:=k7x l nx cs hl h1 hn
   by_cases h3:q=3
   ·rw[if_pos h3,if_pos h3]
    subst h3
    have hlen:l.length=1:=by
     simp[q5o]at hm
     omega
    have h4:=hL ((gateL l nx cs).1.getD 0 0) (by
     have h5:0<(gateL l nx cs).1.length:=by rw[gateL_len];omega
     rw[Qa1,Qa0 h5];exact Qc7 _)
    obtain⟨a,b,c⟩:=h4
    exact⟨by show-_≠(0:Int);omega,by show _< -_;omega,by show-_<_;omega⟩
   ·rw[if_neg h3,if_neg h3]
    have h4:=next_L l nx cs
    exact⟨by show(gateL l nx cs).2.1≠0;omega,by show-_<(gateL l nx cs).2.1;omega,by show(gateL l nx cs).2.1<_;omega⟩
theorem k7x {n:Int}:∀(l:List Tree) (nx:Int) (cs:List q7z),x3m n l→1≤nx→n<nx→∀x∈(gateL l nx cs).1,k2g (nx+cntL l) x
 |[],nx,cs,_,_,_=>fun x hx=>by simp[gateL]at hx
 |t::l,nx,cs,hf,h1,hn=>fun x hx=>by
  obtain⟨hf1,hf2⟩:=hf
  rw[gateL]at hx
  rw[cntL]
  have ha:=u8z t nx cs hf1 h1 hn
  have hx1:=j1t t nx cs
  rcases List.mem_cons.1 hx with hx|hx
  ·rw[hx];exact ha.up (by omega)
  ·have:=k7x l (gateT t nx cs).2.1 (gateT t nx cs).2.2 hf2 (by omega) (by omega) x hx
   exact this.up (by omega)
end
end Go.Proofs.YteikjpbbhopkaaaGreatDoor.Gt
namespace Go.Proofs.YteikjpbbhopkaaaGreatDoor.Gt
open Go En Fl
variable {n nx q v k x c least:Int} {l:List Tree} {cs:List q7z} {i:Nat} {t:Tree} {lits:List Int}
theorem put_c:(c::List.replicate i 1)++[(1:Int)]=c::List.replicate (i+1) 1:=by rw[Qc9,←List.replicate_succ']
theorem put_l (h:i<lits.length):(x::lits.take i)++[lits.getD i 0]=x::lits.take (i+1):=by
 rw[Qc9,Qb9 h,Qa1,Qa0 h];rfl
theorem put_e (h:i=lits.length):(c::List.replicate i 1,x::lits.take i,least)=putG x c lits least:=by
 subst h;rw[Qd3];rfl
theorem fr_0 (h:k≤0):cs++[putG x 1 [] 1]=cs++freshG k lits x:=by unfold freshG;rw[if_pos h]
theorem fr_1 (h:¬k≤0) (h2:(lits.length:Int)<k):cs++[putG (-x) 1 [] 1]=cs++freshG k lits x:=by unfold freshG;rw[if_neg h,if_pos h2]
theorem fr_2 (h:¬k≤0) (h2:¬(lits.length:Int)<k):(cs++[putG (-x) k lits k])++[putG x ((lits.length:Int)-k+1) (y0k lits) ((lits.length:Int)-k+1)]=cs++freshG k lits x:=by
 unfold freshG;rw[if_neg h,if_neg h2,Qc4];rfl
def ngT (l:List Int) (i:Nat):List Int:=y0k (l.take i)++l.drop i
theorem ng_0:lits=ngT lits 0:=by simp[ngT,y0k]
theorem ng_all (h:i=lits.length):ngT lits i=y0k lits:=by subst h;simp[ngT]
theorem ng_len:(ngT lits i).length=lits.length:=by
 unfold ngT y0k
 rw[Qa3,Qa9,←Qa3,Qi0]
theorem ng_at (h:i<lits.length):(ngT lits i).getD i 0=lits.getD i 0:=by
 have e:(y0k (lits.take i)).length=i:=by simp[y0k];omega
 unfold ngT
 rw[Qa1,Qe5 (by omega),e,Qr7,Qh4,Qd9,Qa1]
theorem ng_next (h:i<lits.length):(ngT lits i).set i (-((ngT lits i).getD i 0))=ngT lits (i+1):=by
 rw[ng_at h]
 have e:(y0k (lits.take i)).length=i:=by simp[y0k];omega
 unfold ngT
 rw[List.set_append_right _ _ (by omega),e,Qr7,Qm5 h,Qb2,Qb9 h,Qa1,Qa0 h]
 show List.map (fun x=> -x) (lits.take i)++_=List.map (fun x=> -x) (lits.take i++[lits[i]])++_
 rw[Qd4,Qc4];rfl
theorem fit_bd:∀{q v k:Int} {m:Nat},q5o 65536 q v k m=true→(q=1→v=0∨v=1)∧(q=2→1≤v∧v≤65536)∧(q=3→m=1)∧(q=6→0≤k∧k≤1099511627776)∧(q=1∨q=2∨q=3∨q=4∨q=5∨q=6):=fun{q v k m} h=>by
 unfold q5o at h
 split at h
 ·rename_i e;subst e;simp at h;omega
 ·split at h
  ·rename_i e;subst e;simp at h;omega
  ·split at h
   ·rename_i e;subst e;simp at h;omega
   ·split at h
    ·rename_i e;simp at h;omega
    ·split at h
     ·rename_i e;subst e;simp at h;omega
     ·cases h
theorem kind4 (h:q5o 65536 q v k l.length=true) (h2:¬q=2) (h3:¬q=3):q=1∨q=4∨q=5∨q=6:=by
 obtain⟨_,_,_,_,h5⟩:=fit_bd h
 omega
theorem gt_var (h:q=2):gateT (.node q v k l) nx cs=(v,nx,cs):=by rw[gateT,if_pos h]
theorem gt_not (h2:¬q=2) (h3:q=3):gateT (.node q v k l) nx cs=(-((gateL l nx cs).1.getD 0 0),(gateL l nx cs).2):=by rw[gateT,if_neg h2];unfold u5a;rw[if_pos h3]
theorem gt_one (h2:¬q=2) (h3:¬q=3):gateT (.node q v k l) nx cs=((gateL l nx cs).2.1,(gateL l nx cs).2.1+1,(gateL l nx cs).2.2++freshG (kG q v k l.length) (gateL l nx cs).1 (gateL l nx cs).2.1):=by
 rw[gateT,if_neg h2];unfold u5a;rw[if_neg h3,gateL_len]
theorem cnt_not (h3:q=3):cntT (.node q v k l)=cntL l:=by subst h3;simp[cntT]
theorem cnt_one (h2:¬q=2) (h3:¬q=3):cntT (.node q v k l)=cntL l+1:=by rw[cntT,if_neg h2,if_neg h3]
theorem cnt_le (h2:¬q=2):cntL l≤cntT (.node q v k l):=by rw[cntT,if_neg h2];split<;>omega
mutual
theorem v3c:∀(t:Tree) (nx:Int) (cs:List q7z),fitT 65536 t→1≤nx→nx+cntT t≤65537→-65536≤(gateT t nx cs).1∧(gateT t nx cs).1≤65536
 |.node q v k l,nx,cs,hf,h1,hn=>by
  obtain⟨hm,_,hl⟩:=hf
  obtain⟨m1,m2,m3,m4,m5⟩:=fit_bd hm
  by_cases h2:q=2
  ·rw[gt_var h2];have:=m2 h2;exact⟨by show-65536≤v;omega,this.2⟩
  ·have hL:=bd_L l nx cs hl h1 (by have:=cnt_le (v:=v) (k:=k) (l:=l) h2;omega)
   by_cases h3:q=3
   ·rw[gt_not h2 h3]
    have h5:0<(gateL l nx cs).1.length:=by rw[gateL_len,m3 h3];omega
    have h4:=hL ((gateL l nx cs).1.getD 0 0) (by rw[Qa1,Qa0 h5];exact Qc7 _)
    exact⟨by show-65536≤-_;omega,by show-_≤(65536:Int);omega⟩
   ·rw[gt_one h2 h3]
    rw[cnt_one h2 h3]at hn
    have:=next_L l nx cs
    exact⟨by show-65536≤(gateL l nx cs).2.1;omega,by show(gateL l nx cs).2.1≤65536;omega⟩
theorem bd_L:∀(l:List Tree) (nx:Int) (cs:List q7z),x3m 65536 l→1≤nx→nx+cntL l≤65537→∀x∈(gateL l nx cs).1,-65536≤x∧x≤65536
 |[],nx,cs,_,_,_=>fun x hx=>by simp[gateL]at hx
 |t::l,nx,cs,hf,h1,hn=>fun x hx=>by
  obtain⟨hf1,hf2⟩:=hf
  rw[gateL]at hx
  rw[cntL]at hn
  have hx1:=j1t t nx cs
  rcases List.mem_cons.1 hx with hx|hx
  ·rw[hx];exact v3c t nx cs hf1 h1 (by omega)
  ·exact bd_L l (gateT t nx cs).2.1 (gateT t nx cs).2.2 hf2 (by omega) (by omega) x hx
end
theorem eta (t:Tree):(Tree.node t.kind t.v t.k t.l)=t:=by cases t;rfl
theorem rnd_1 (h:i<l.length):(gateL (l.take i) nx cs).1++[(gateT (.node (l.getD i q0a).kind (l.getD i q0a).v (l.getD i q0a).k (l.getD i q0a).l) (gateL (l.take i) nx cs).2.1 (gateL (l.take i) nx cs).2.2).1]=(gateL (l.take (i+1)) nx cs).1:=by rw[eta,z3i h]
theorem rnd_2 (h:i<l.length):(gateT (.node (l.getD i q0a).kind (l.getD i q0a).v (l.getD i q0a).k (l.getD i q0a).l) (gateL (l.take i) nx cs).2.1 (gateL (l.take i) nx cs).2.2).2.1=(gateL (l.take (i+1)) nx cs).2.1:=by rw[eta,z3i h]
theorem rnd_3 (h:i<l.length):(gateT (.node (l.getD i q0a).kind (l.getD i q0a).v (l.getD i q0a).k (l.getD i q0a).l) (gateL (l.take i) nx cs).2.1 (gateL (l.take i) nx cs).2.2).2.2=(gateL (l.take (i+1)) nx cs).2.2:=by rw[eta,z3i h]
mutual
def wideT:Tree→Bool
 |.node _ _ _ l=>decide ((l.length:Int)>4095)||x5f l
def x5f:List Tree→Bool
 |[]=>false
 |t::l=>wideT t||x5f l
end
theorem j9w:∀l:List Tree,x5f l=l.any wideT
 |[]=>rfl
 |t::l=>by rw[x5f,j9w l];rfl
theorem wide_at (t:Tree):wideT (.node t.kind t.v t.k t.l)=wideT t:=by rw[eta]
theorem wide_eq:wideT (.node q v k l)=(decide ((l.length:Int)>4095)||l.any wideT):=by rw[wideT,j9w]
mutual
theorem u5v {n:Int}:∀t:Tree,x5i n t=true→wideT t=false→fitT n t
 |.node q v k l,hm,hw=>by
  rw[x5i,Qa2]at hm
  rw[wideT,Qc5]at hw
  exact⟨hm.1,by have:=of_decide_eq_false hw.1;omega,u9k l hm.2 hw.2⟩
theorem u9k {n:Int}:∀l:List Tree,x2h n l=true→x5f l=false→x3m n l
 |[],_,_=>trivial
 |t::l,hm,hw=>by
  rw[x2h,Qa2]at hm
  rw[x5f,Qc5]at hw
  exact⟨u5v t hm.1 hw.1,u9k l hm.2 hw.2⟩
end
theorem u7r {a b q v k:Int} {m:Nat} (h:q5o a q v k m=true) (hab:a≤b):q5o b q v k m=true:=by
 unfold q5o at h⊢
 split at h
 ·rename_i e;rw[if_pos e];exact h
 ·rename_i e1
  rw[if_neg e1]
  split at h
  ·rename_i e;rw[if_pos e]
   simp only[Qa2,decide_eq_true_eq]at h⊢
   exact⟨⟨⟨h.1.1.1,by omega⟩,h.1.2⟩,h.2⟩
  ·rename_i e;rw[if_neg e];exact h
mutual
theorem u1a {a b:Int} (hab:a≤b):∀t:Tree,fitT a t→fitT b t
 |.node q v k l,h=>⟨u7r h.1 hab,h.2.1,x6g hab l h.2.2⟩
theorem x6g {a b:Int} (hab:a≤b):∀l:List Tree,x3m a l→x3m b l
 |[],_=>trivial
 |t::l,h=>⟨u1a hab t h.1,x6g hab l h.2⟩
end
end Go.Proofs.YteikjpbbhopkaaaGreatDoor.Gt
namespace Go.Proofs.YteikjpbbhopkaaaGreatDoor.Gt
open Go En Fl Go.RowKit
mutual
def sizW:Tree→Int
 |.node _ _ _ l=>sizWL 1 l
def sizWL (n:Int):List Tree→Int
 |[]=>n
 |t::l=>sizWL (wrap64 (n+sizW t)) l
end
variable {n q v k:Int} {l:List Tree} {i:Nat}
theorem y2h:∀(l m:List Tree) (n:Int),sizWL n (l++m)=sizWL (sizWL n l) m
 |[],m,n=>by rw[Qg8,sizWL]
 |t::l,m,n=>by rw[Qc9,sizWL,sizWL,y2h l m]
theorem siz_0:(1:Int)=sizWL 1 (l.take 0):=by rw[Qn7,sizWL]
theorem siz_next (h:i<l.length):wrap64 (sizWL 1 (l.take i)+sizW (.node (l.getD i q0a).kind (l.getD i q0a).v (l.getD i q0a).k (l.getD i q0a).l))=sizWL 1 (l.take (i+1)):=by
 rw[eta,takeD h,y2h,sizWL,sizWL]
theorem siz_end (h:i=l.length):sizWL 1 (l.take i)=sizW (.node q v k l):=by rw[h,Qd3,sizW]
theorem wr_nat {a:Nat} (h:a≤9223372036854775806):wrap64 ((a:Int)+1)=((a:Int)+1):=by unfold wrap64;omega
theorem wr_next {a:Nat}:wrap64 (wrap64 (a:Int)+1)=wrap64 ((a+1:Nat):Int):=by unfold wrap64;omega
theorem wr_0:(0:Int)=wrap64 ((0:Nat):Int):=by unfold wrap64;omega
mutual
theorem k3f:∀t:Tree,x3n t→∀x∈q0v t,x.l.length≤2932031007317
 |.node q v k l,h,x,hx=>by
  rw[q0v]at hx
  rcases List.mem_cons.1 hx with hx|hx
  ·subst hx;exact h.1
  ·exact x8u l h.2 x hx
theorem x8u:∀l:List Tree,q2b l→∀x∈q3c l,x.l.length≤2932031007317
 |[],_,x,hx=>by rw[q3c]at hx;cases hx
 |t::l,h,x,hx=>by
  rw[q3c]at hx
  rcases List.mem_append.1 hx with hx|hx
  ·exact k3f t h.1 x hx
  ·exact x8u l h.2 x hx
end
theorem node_mx (hl:l.length≤2932031007317) (h:q2b l) (hi:i<q2a (.node q v k l)):((q0v (.node q v k l)).getD i q0a).l.length≤2932031007317:=
 k3f (.node q v k l) ⟨hl,h⟩ _ (by rw[Qa1,Qa0 (by rw[q9e];exact hi)];exact Qc7 _)
def chkW (n q v k:Int) (l:List Tree):Int:=bif ((decide (n<0)||decide (n>65536))|| !(u3w n q v k l))then 1 else bif decide (wrap64 ((1+q0p l:Nat):Int)>65536)then 2 else 0
theorem cw_out (h:(decide (n<0)||decide (n>65536))=true):(1:Int)=chkW n q v k l:=by unfold chkW;rw[h];rfl
theorem cw_no {i:Nat} (hi:i<q2a (.node q v k l)) (h:(!(q5o n ((q0v (.node q v k l)).getD i q0a).kind ((q0v (.node q v k l)).getD i q0a).v ((q0v (.node q v k l)).getD i q0a).k ((q0v (.node q v k l)).getD i q0a).l.length))=true):(1:Int)=chkW n q v k l:=by
 have h1:u3w n q v k l=false:=by
  rw[←j1m,Bool.eq_false_iff]
  intro h2
  rw[Qh1]at h2
  rw[←q9e]at hi
  have h3:=h2 ((q0v (.node q v k l)).getD i q0a) (by rw[Qa1,Qa0 hi];exact Qc7 _)
  unfold q8l at h3
  rw[h3]at h
  cases h
 unfold chkW;rw[h1,Bool.not_false,Bool.or_true];rfl
theorem cw_end {m:Nat} {s:Int} (h0:(decide (n<0)||decide (n>65536))=false) (hm:m=q2a (.node q v k l)) (hs:s=wrap64 (m:Int)) (h:∀j,j<m→q8l n ((q0v (.node q v k l)).getD j q0a)=true):
 chkW n q v k l=bif decide (s>65536)then 2 else 0:=by
 unfold chkW
 rw[h0,x7k hm h,hs,hm,x7n,Qm1,Bool.or_false,cond_false]
theorem v2q (h:chkW n q v k l=0):0≤n∧n≤65536∧x5i n (.node q v k l)=true:=by
 unfold chkW at h
 cases h1:((decide (n<0)||decide (n>65536))|| !(u3w n q v k l))with
 |true=>rw[h1]at h;cases h
 |false=>
  rw[Qc5,Qc5]at h1
  have a:=of_decide_eq_false h1.1.1
  have b:=of_decide_eq_false h1.1.2
  have h2:u3w n q v k l=true:=by
   cases h9:u3w n q v k l with
   |true=>rfl
   |false=>rw[h9]at h1;cases h1.2
  exact⟨by omega,by omega,by rw[k0u];exact h2⟩
def madeR (next:Int) (t:Tree):List Int×List q7z×Int×Int:=
 if next<1∨65537<next then([],[],0,1)
 else if chkW (next-1) t.kind t.v t.k t.l≠0 then([],[],0,chkW (next-1) t.kind t.v t.k t.l)
 else if wideT t=true then([],[],0,2)
 else if next+(cntT t:Nat)≤65537 then([(gateT t next []).1],(gateT t next []).2.2,(gateT t next []).2.1,0)
 else([],[],0,2)
def gatesR (next:Int) (t:Tree):Int×List q7z×Int×Int:=
 if(madeR next t).2.2.2≠0 then(0,[],0,(madeR next t).2.2.2)else((madeR next t).1.getD 0 0,(madeR next t).2.1,(madeR next t).2.2.1,0)
theorem ga_no {next:Int} {t:Tree} (h:(madeR next t).2.2.2≠0):gatesR next t=(0,[],0,(madeR next t).2.2.2):=if_pos h
theorem ga_yes {next:Int} {t:Tree} (h:(madeR next t).2.2.2=0):gatesR next t=((madeR next t).1.getD 0 0,(madeR next t).2.1,(madeR next t).2.2.1,0):=if_neg (fun q=>q h)
theorem u9e {next:Int} {t:Tree} (h:(madeR next t).2.2.2=0):1≤next∧next≤65537∧chkW (next-1) t.kind t.v t.k t.l=0∧wideT t=false∧next+(cntT t:Nat)≤65537∧madeR next t=([(gateT t next []).1],(gateT t next []).2.2,(gateT t next []).2.1,0):=by
 unfold madeR at h⊢
 by_cases h1:next<1∨65537<next
 ·rw[if_pos h1]at h;cases h
 ·rw[if_neg h1]at h⊢
  by_cases h2:chkW (next-1) t.kind t.v t.k t.l≠0
  ·rw[if_pos h2]at h;exact absurd h h2
  ·rw[if_neg h2]at h⊢
   by_cases h3:wideT t=true
   ·rw[if_pos h3]at h;cases h
   ·rw[if_neg h3]at h⊢
    by_cases h4:next+(cntT t:Nat)≤65537
    ·rw[if_pos h4]
     exact⟨by omega,by omega,Decidable.not_not.1 h2,by simpa using h3,h4,rfl⟩
    ·rw[if_neg h4]at h;cases h
theorem ma_one {next:Int} {t:Tree} (h:(madeR next t).2.2.2=0):(madeR next t).1.length=1:=by rw[(u9e h).2.2.2.2.2];rfl
end Go.Proofs.YteikjpbbhopkaaaGreatDoor.Gt
namespace Go.Proofs.YteikjpbbhopkaaaGreatDoor.Gt
open Go En Fl
variable {nx q v k:Int} {l:List Tree} {cs:List q7z} {i:Nat}
theorem cnt_0:nx≤65537→nx+(cntL (l.take 0):Nat)≤65537:=fun h=>by rw[Qn7,cntL];omega
theorem cnt_round (h:i<l.length):cntL (l.take (i+1))=cntL (l.take i)+cntT (.node (l.getD i q0a).kind (l.getD i q0a).v (l.getD i q0a).k (l.getD i q0a).l)∧cntL (l.take i)+cntT (.node (l.getD i q0a).kind (l.getD i q0a).v (l.getD i q0a).k (l.getD i q0a).l)≤cntL l:=by
 rw[eta]
 refine⟨?_,u8f h⟩
 rw[takeD h,z6j,cntL,cntL];rfl
theorem cnt_var (h:q=2):cntT (.node q v k l)=0:=by rw[cntT,if_pos h]
theorem rndB (hf:x3m 65536 l) (hi:i<l.length) (h1:1≤nx) (hN:nx+(cntL (l.take i):Nat)≤65537) (hcs:(cs.length:Int)+2*(65537-nx)≤1000000000):
 fitT 65536 (.node (l.getD i q0a).kind (l.getD i q0a).v (l.getD i q0a).k (l.getD i q0a).l)∧1≤(gateL (l.take i) nx cs).2.1∧(gateL (l.take i) nx cs).2.1≤65537∧(((gateL (l.take i) nx cs).2.2).length:Int)+2*(65537-(gateL (l.take i) nx cs).2.1)≤1000000000:=by
 rw[eta]
 have h2:=next_L (l.take i) nx cs
 have h3:=cons_L (l.take i) nx cs
 exact⟨u8d hf hi,by omega,by omega,by omega⟩
def mdL (t:Tree) (nx:Int):Nat→List Int
 |0=>[]
 |_+1=>[(gateT t nx []).1]
def mdN (t:Tree) (nx:Int):Nat→Int
 |0=>nx
 |_+1=>(gateT t nx []).2.1
def mdC (t:Tree) (nx:Int):Nat→List q7z
 |0=>[]
 |_+1=>(gateT t nx []).2.2
variable {t:Tree} {ts:List Tree}
theorem md_1 (h:i=0) (he:t=.node q v k l):mdL t nx i++[(gateT (.node q v k l) (mdN t nx i) (mdC t nx i)).1]=mdL t nx (i+1):=by subst h;rw[he];rfl
theorem md_2 (h:i=0) (he:t=.node q v k l):(gateT (.node q v k l) (mdN t nx i) (mdC t nx i)).2.1=mdN t nx (i+1):=by subst h;rw[he];rfl
theorem md_3 (h:i=0) (he:t=.node q v k l):(gateT (.node q v k l) (mdN t nx i) (mdC t nx i)).2.2=mdC t nx (i+1):=by subst h;rw[he];rfl
theorem md_out (h:nx<1∨65537<nx):madeR nx t=([],[],0,1):=by unfold madeR;rw[if_pos h]
theorem md_chk (h:1≤nx∧nx≤65537) (h2:chkW (nx-1) t.kind t.v t.k t.l≠0):madeR nx t=([],[],0,chkW (nx-1) t.kind t.v t.k t.l):=by unfold madeR;rw[if_neg (by omega),if_pos h2]
theorem md_wide (h:1≤nx∧nx≤65537) (h2:chkW (nx-1) t.kind t.v t.k t.l=0) (h3:wideT t=true):madeR nx t=([],[],0,2):=by unfold madeR;rw[if_neg (by omega),if_neg (by simp[h2]),if_pos h3]
theorem md_full (h:1≤nx∧nx≤65537) (h2:chkW (nx-1) t.kind t.v t.k t.l=0) (h3:wideT t=false) (h4:¬nx+(cntT t:Nat)≤65537):madeR nx t=([],[],0,2):=by unfold madeR;rw[if_neg (by omega),if_neg (by simp[h2]),if_neg (by simp[h3]),if_neg h4]
theorem md_ok (h:1≤nx∧nx≤65537) (h2:chkW (nx-1) t.kind t.v t.k t.l=0) (h3:wideT t=false) (h4:nx+(cntT t:Nat)≤65537):madeR nx t=(mdL t nx 1,mdC t nx 1,mdN t nx 1,0):=by unfold madeR;rw[if_neg (by omega),if_neg (by simp[h2]),if_neg (by simp[h3]),if_pos h4];rfl
theorem md_fit (h:1≤nx∧nx≤65537) (h2:chkW (nx-1) q v k l=0) (h3:wideT (.node q v k l)=false):fitT 65536 (.node q v k l):=
 u1a (by omega) _ (u5v _ (v2q h2).2.2 h3)
end Go.Proofs.YteikjpbbhopkaaaGreatDoor.Gt
namespace Go.Proofs.YteikjpbbhopkaaaGreatDoor.Gt
open Go En Fl
theorem k0g {y:Int}:∀{z:List (Int×Int)},(∀q∈z,0≤q.1)→0≤cfZ z y
 |[],_=>Qe6 _
 |q::t,h=>by
  rw[cfZ]
  have h1:=k0g (y:=y) (z:=t) fun q hq=>h q (Qb7 _ hq)
  have h2:=h q Qb4
  split<;>omega
theorem k1k {l:q4p} (h:∀q∈l.C.zip l.L,0≤q.1):∀vs:List Int,0≤q2s l vs
 |[]=>Qe6 _
 |v::t=>by
  rw[q2s]
  have h1:=k1k h t
  have h2:0≤cf l v:=k0g h
  have h3:0≤cf l (-v):=k0g h
  omega
def GC (nx:Int) (x:q7z):Prop:=∃(y c:Int) (lits:List Int),x=putG y c lits c∧(1≤c∧c≤4096)∧lits.length≤4095∧k2g nx y∧∀z∈lits,z≠0∧z.natAbs<y.natAbs
theorem GC.up {a b:Int} {x:q7z} (h:GC a x) (hab:a≤b):GC b x:=by
 obtain⟨y,c,lits,e,h1,h2,h3,h4⟩:=h
 exact⟨y,c,lits,e,h1,h2,h3.up hab,h4⟩
theorem u4d {nx:Int} {x:q7z} (h:GC nx x) {m:Int} (hck:q0o ⟨x.1,x.2.1,x.2.2⟩ m=0):
 Cn.q2m (q0j ⟨x.1,x.2.1,x.2.2⟩).C (q0j ⟨x.1,x.2.1,x.2.2⟩).B≠2∧Cn.q2m (q0j ⟨x.1,x.2.1,x.2.2⟩).C (q0j ⟨x.1,x.2.1,x.2.2⟩).B≠3:=by
 obtain⟨y,c,lits,rfl,hc,hl,hy,hz⟩:=h
 have e:q0j ⟨(putG y c lits c).1,(putG y c lits c).2.1,(putG y c lits c).2.2⟩=q6g ⟨c::List.replicate lits.length 1,y::lits,c⟩:=if_pos (Cn.q6u hck)
 rw[e]
 clear e
 generalize hlv:(⟨c::List.replicate lits.length 1,y::lits,c⟩:q4p)=l
 have hC:l.C=c::List.replicate lits.length 1:=by rw[←hlv]
 have hL:l.L=y::lits:=by rw[←hlv]
 have hB:l.B=c:=by rw[←hlv]
 have hzip:l.C.zip l.L=(c,y)::(List.replicate lits.length 1).zip lits:=by rw[hC,hL];rfl
 have hq2:∀q∈(List.replicate lits.length (1:Int)).zip lits,q.1=1∧q.2.natAbs<y.natAbs:=fun q hq=>
  ⟨List.eq_of_mem_replicate (Qf8 hq).1,(hz q.2 (Qf8 hq).2).2⟩
 have hnn:∀q∈l.C.zip l.L,0≤q.1:=fun q hq=>by
  rw[hzip]at hq
  rcases List.mem_cons.1 hq with rfl|hq
  ·show 0≤c;omega
  ·rw[(hq2 q hq).1];decide
 have hy0:=hy.1
 have c1:cf l y=c:=by
  unfold cf
  rw[hzip,cfZ,if_pos rfl,z6a fun q hq e=>by have:=(hq2 q hq).2;rw[e]at this;omega]
  omega
 have c2:cf l (-y)=0:=by
  unfold cf
  rw[hzip,cfZ,if_neg (show¬y= -y by omega),z6a fun q hq e=>by have:=(hq2 q hq).2;rw[e,Qk0]at this;omega]
  rfl
 have hmn:=k1k hnn (q0h l.L)
 have hmem:(c,y)∈q0u l (q0h l.L):=by
  unfold q0u
  refine List.mem_flatMap.2 ⟨(y.natAbs:Int),q4e.2 ⟨y,by rw[hL];exact Qb4,rfl⟩,?_⟩
  unfold q5s
  by_cases hp:0<y
  ·rw[show(y.natAbs:Int)=y by omega,c1,c2,if_pos (by omega)]
   rw[Int.sub_zero];exact List.mem_singleton.2 rfl
  ·rw[show(y.natAbs:Int)= -y by omega,Qq8,c1,c2,if_neg (by omega),if_pos (by omega)]
   rw[Int.sub_zero];exact List.mem_singleton.2 rfl
 have nil:∀b:Int,Cn.q2m [] b≠2∧Cn.q2m [] b≠3:=fun b=>by
  have e9:Cn.q2m [] b=if b=0 then 5 else 6:=if_pos rfl
  rw[e9]
  split<;>exact⟨by decide,by decide⟩
 unfold q6g
 split
 ·exact nil 0
 ·split
  ·exact nil 1
  ·rename_i h1 h2
   generalize hbb:l.B-q2s l (q0h l.L)=B at h1 h2⊢
   have hBc:B≤c:=by rw[←hbb,hB];omega
   have hmem2:B∈(q0u l (q0h l.L)).map fun q=>min q.1 B:=List.mem_map.2 ⟨_,hmem,by show min c B=B;omega⟩
   show Cn.q2m ((q0u l (q0h l.L)).map fun q=>min q.1 B) B≠2∧Cn.q2m ((q0u l (q0h l.L)).map fun q=>min q.1 B) B≠3
   generalize (q0u l (q0h l.L)).map (fun q=>min q.1 B)=C at hmem2⊢
   unfold Cn.q2m
   have hne:C.length≠0:=fun e=>by rw[Qc8 e]at hmem2;cases hmem2
   rw[if_neg hne]
   by_cases hev:Cn.evB C=true
   ·have hd:C.getD 0 0=B:=by
     unfold Cn.evB at hev
     rw[Qa2,Qh1]at hev
     exact(eq_of_beq (hev.1 B hmem2)).symm
    rw[if_pos ⟨hev,hd⟩]
    exact⟨by decide,by decide⟩
   ·rw[if_neg (fun e=>hev e.1),if_neg (fun e=>hev e.1),if_neg (fun e=>hev e.1)]
    exact⟨by decide,by decide⟩
theorem u8g {nx:Int} {x:q7z} (h:GC nx x) (h1:nx≤65537):q0o ⟨x.1,x.2.1,x.2.2⟩ (nx-1)=0:=by
 obtain⟨y,c,lits,rfl,hc,hl,hy,hz⟩:=h
 have:=hy.1;have:=hy.2.1;have:=hy.2.2
 refine z7o (by omega) (by omega) (by show(c::List.replicate lits.length (1:Int)).length=(y::lits).length;simp) (by show-1099511627776≤c∧c≤1099511627776;omega) (fun a ha=>?_) (fun a ha=>?_) (by show(y::lits).length≤4096;rw[Qa8];omega)
 ·have ha:a∈c::List.replicate lits.length (1:Int):=ha
  rcases List.mem_cons.1 ha with rfl|ha
  ·omega
  ·rw[List.eq_of_mem_replicate ha];omega
 ·have ha:a∈y::lits:=ha
  rcases List.mem_cons.1 ha with rfl|ha
  ·omega
  ·have:=hz a ha;omega
theorem k5l {k x:Int} {ls:List Int} (hx:1≤x) (hl:ls.length≤4095) (hz:∀z∈ls,k2g x z):∀y∈freshG k ls x,GC (x+1) y:=by
 have hp:k2g (x+1) x:=⟨by omega,by omega,by omega⟩
 have hn:k2g (x+1) (-x):=⟨by omega,by omega,by omega⟩
 have hz1:∀z∈ls,z≠0∧z.natAbs<x.natAbs:=fun z hzm=>by
  obtain⟨a,b,c⟩:=hz z hzm
  exact⟨a,by omega⟩
 intro y hy
 unfold freshG at hy
 split at hy
 ·rw[List.mem_singleton.1 hy]
  exact⟨x,1,[],rfl,by omega,by simp,hp,fun z hz=>by cases hz⟩
 ·split at hy
  ·rw[List.mem_singleton.1 hy]
   exact⟨-x,1,[],rfl,by omega,by simp,hn,fun z hz=>by cases hz⟩
  ·rcases List.mem_cons.1 hy with rfl|hy
   ·exact⟨-x,k,ls,rfl,by omega,hl,hn,fun z hzm=>by rw[Qk0];exact hz1 z hzm⟩
   ·rw[List.mem_singleton.1 hy]
    refine⟨x,(ls.length:Int)-k+1,y0k ls,rfl,by omega,by unfold y0k;rw[Qa9];exact hl,hp,fun z hzm=>?_⟩
    obtain⟨w,hw,rfl⟩:=List.mem_map.1 hzm
    obtain⟨a,b⟩:=hz1 w hw
    exact⟨by omega,by rw[Qk0];exact b⟩
mutual
theorem v0r {n:Int}:∀(t:Tree) (nx:Int) (cs:List q7z),fitT n t→1≤nx→n<nx→(∀x∈cs,GC nx x)→∀x∈(gateT t nx cs).2.2,GC (nx+cntT t) x
 |.node q v k l,nx,cs,hf,h1,hn,hc=>by
  obtain⟨hm,h4,hl⟩:=hf
  rw[gateT,cntT]
  have hL:=v1u l nx cs hl h1 hn hc
  by_cases h2:q=2
  ·rw[if_pos h2,if_pos h2];exact fun x hx=>(hc x hx).up (by simp)
  ·rw[if_neg h2,if_neg h2]
   unfold u5a
   by_cases h3:q=3
   ·rw[if_pos h3,if_pos h3];exact hL
   ·rw[if_neg h3,if_neg h3]
    intro x hx
    have hnx:=next_L l nx cs
    rcases List.mem_append.1 hx with hx|hx
    ·exact(hL x hx).up (by omega)
    ·have hll:=k7x l nx cs hl h1 hn
     rw[←hnx]at hll
     have:=k5l (k:=kG q v k (gateL l nx cs).1.length) (by omega) (by rw[gateL_len];exact h4) hll x hx
     exact this.up (by omega)
theorem v1u {n:Int}:∀(l:List Tree) (nx:Int) (cs:List q7z),x3m n l→1≤nx→n<nx→(∀x∈cs,GC nx x)→∀x∈(gateL l nx cs).2.2,GC (nx+cntL l) x
 |[],nx,cs,_,_,_,hc=>fun x hx=>(hc x hx).up (by simp[cntL])
 |t::l,nx,cs,hf,h1,hn,hc=>by
  obtain⟨hf1,hf2⟩:=hf
  rw[gateL,cntL]
  have hT:=v0r t nx cs hf1 h1 hn hc
  have hx1:=j1t t nx cs
  rw[←hx1]at hT
  have hL:=v1u l (gateT t nx cs).2.1 (gateT t nx cs).2.2 hf2 (by omega) (by omega) hT
  exact fun x hx=>(hL x hx).up (by omega)
end
end Go.Proofs.YteikjpbbhopkaaaGreatDoor.Gt
namespace Go.Proofs.YteikjpbbhopkaaaGreatDoor.Gt
open Go En Fl
open Cn (q3e q8i Agr)
def Sat (F:Nat→Bool) (cs:List q7z):Prop:=∀x∈cs,x.2.2≤q1n (q3e F) (x.1.zip x.2.1)
theorem Sat.app {F:Nat→Bool} {a b:List q7z}:Sat F (a++b)↔Sat F a∧Sat F b:=
 ⟨fun h=>⟨fun x hx=>h x (Qd7 _ hx),fun x hx=>h x (Qe9 _ hx)⟩,fun h x hx=>by
  rcases List.mem_append.1 hx with hx|hx
  ·exact h.1 x hx
  ·exact h.2 x hx⟩
theorem x1j (p:Int→Bool):∀ls:List Int,q1n p ((List.replicate ls.length 1).zip ls)=(ls.countP p:Int)
 |[]=>rfl
 |x::ls=>by
  rw[Qa8,List.replicate_succ,Qh5,q1n,x1j p ls,Qq9]
  split<;>omega
theorem q8p {F:Nat→Bool} {y c least:Int} {ls:List Int}:((putG y c ls least).2.2≤q1n (q3e F) ((putG y c ls least).1.zip (putG y c ls least).2.1))↔least≤(if q3e F y=true then c else 0)+(ls.countP (q3e F):Int):=by
 have:q1n (q3e F) ((putG y c ls least).1.zip (putG y c ls least).2.1)=(if q3e F y=true then c else 0)+q1n (q3e F) ((List.replicate ls.length 1).zip ls):=rfl
 rw[this,x1j]
 exact Iff.rfl
theorem x9m {F:Nat→Bool}:∀{ls:List Int},(∀z∈ls,z≠0)→(y0k ls).countP (q3e F)+ls.countP (q3e F)=ls.length
 |[],_=>rfl
 |z::ls,h=>by
  have ih:=x9m (F:=F) (ls:=ls) fun y hy=>h y (Qb7 _ hy)
  have e:=Cn.j6y F z (h z Qb4)
  have e2:y0k (z::ls)= -z::y0k ls:=rfl
  rw[e2,Qq9,Qq9,e,Qa8]
  cases q3e F z<;>simp<;>omega
theorem y5c {F:Nat→Bool} {x:Int} (h:1≤x):q3e F x=F x.toNat:=by
 unfold q3e
 rw[decide_eq_true (show 0<x by omega),show x.natAbs=x.toNat by omega]
 cases F x.toNat<;>rfl
theorem y0r {F:Nat→Bool} {k x:Int} {ls:List Int} (hx:1≤x) (hz:∀z∈ls,z≠0):Sat F (freshG k ls x)↔(F x.toNat=true↔k≤(ls.countP (q3e F):Int)):=by
 have hp:=y5c (F:=F) hx
 have hn:q3e F (-x)= !F x.toNat:=by rw[Cn.j6y F x (by omega),hp]
 have hcl:ls.countP (q3e F)≤ls.length:=List.countP_le_length
 unfold freshG
 split
 ·rename_i h
  constructor
  ·intro hs
   have h1:=q8p.1 (hs _ (List.mem_singleton.2 rfl))
   rw[hp]at h1
   have:F x.toNat=true:=by
    cases hF:F x.toNat with
    |true=>rfl
    |false=>rw[hF]at h1;simp at h1
   exact⟨fun _=>by omega,fun _=>this⟩
  ·intro hs y hy
   rw[List.mem_singleton.1 hy]
   refine q8p.2 ?_
   rw[hp,hs.2 (by omega)]
   simp
 ·split
  ·rename_i h h2
   constructor
   ·intro hs
    have h1:=q8p.1 (hs _ (List.mem_singleton.2 rfl))
    rw[hn]at h1
    have:F x.toNat=false:=by
     cases hF:F x.toNat with
     |false=>rfl
     |true=>rw[hF]at h1;simp at h1
    rw[this]
    exact⟨fun h=>(by cases h),fun h=>(by omega)⟩
   ·intro hs y hy
    rw[List.mem_singleton.1 hy]
    refine q8p.2 ?_
    have:F x.toNat=false:=by
     cases hF:F x.toNat with
     |false=>rfl
     |true=>have:=hs.1 hF;omega
    rw[hn,this]
    simp
  ·rename_i h h2
   have hcn:=x9m (F:=F) hz
   have key:Sat F [putG (-x) k ls k,putG x ((ls.length:Int)-k+1) (y0k ls) ((ls.length:Int)-k+1)]↔(k≤(if(!F x.toNat)=true then k else 0)+(ls.countP (q3e F):Int))∧((ls.length:Int)-k+1≤(if F x.toNat=true then(ls.length:Int)-k+1 else 0)+((y0k ls).countP (q3e F):Int)):=by
    constructor
    ·intro hs
     have h3:=q8p.1 (hs _ Qb4)
     have h4:=q8p.1 (hs _ (Qb7 _ Qb4))
     rw[hn]at h3
     rw[hp]at h4
     exact⟨h3,h4⟩
    ·rintro⟨h3,h4⟩ y hy
     rcases List.mem_cons.1 hy with rfl|hy
     ·refine q8p.2 ?_;rw[hn];exact h3
     ·rw[List.mem_singleton.1 hy];refine q8p.2 ?_;rw[hp];exact h4
   rw[key]
   cases F x.toNat<;>simp<;>omega
theorem v0s {nx:Int} {F G:Nat→Bool} (ha:Agr nx F G) {x:q7z} (h:GC nx x):q1n (q3e F) (x.1.zip x.2.1)=q1n (q3e G) (x.1.zip x.2.1):=by
 obtain⟨y,c,lits,rfl,hc,hl,hy,hz⟩:=h
 refine Cn.q5j fun q hq=>Cn.z1h ha ?_
 have hm:q.2∈y::lits:=(Qf8 hq).2
 rcases List.mem_cons.1 hm with e|e
 ·rw[e];exact⟨hy.1,by have:=hy.2;omega⟩
 ·have:=hz _ e;have:=hy.2;exact⟨(hz _ e).1,by omega⟩
theorem u7x {nx:Int} {F G:Nat→Bool} (ha:Agr nx F G) {cs:List q7z} (h:∀x∈cs,GC nx x) (hs:Sat G cs):Sat F cs:=fun x hx=>by
 rw[v0s ha (h x hx)];exact hs x hx
theorem u9r {nx:Int} {F G:Nat→Bool} (ha:Agr nx F G) {ls:List Int} (h:∀z∈ls,k2g nx z):ls.countP (q3e F)=ls.countP (q3e G):=
 List.countP_congr fun z hz=>by rw[Cn.z1h ha ⟨(h z hz).1,by have:=(h z hz).2;omega⟩]
theorem v2o {n q v k:Int} {m:Nat} (h:q5o n q v k m=true):(q=1→v=0∨v=1)∧(q=1→m=0):=by
 unfold q5o at h
 constructor<;>intro e<;>subst e<;>simp at h<;>omega
theorem v3v {n q v k:Int} {m:Nat} (h:q5o n q v k m=true) (h2:¬q=2) (h3:¬q=3):q=1∨q=4∨q=5∨q=6:=by
 by_cases e1:q=1
 ·exact .inl e1
 ·by_cases e4:q=4∨q=5
  ·rcases e4 with e|e
   ·exact .inr (.inl e)
   ·exact .inr (.inr (.inl e))
  ·by_cases e6:q=6
   ·exact .inr (.inr (.inr e6))
   ·unfold q5o at h
    rw[if_neg e1,if_neg h2,if_neg h3,if_neg e4,if_neg e6]at h
    cases h
theorem u8v {n:Int}:∀(N:Nat) (t:Tree),q2a t<N→∀(nx:Int) (cs:List q7z),fitT n t→1≤nx→n<nx→(∀x∈cs,GC nx x)→
 (∀F,Sat F (gateT t nx cs).2.2→Sat F cs)∧
 (∀F0,Sat F0 cs→∃F,Agr nx F F0∧Sat F (gateT t nx cs).2.2)∧
 ∀(F:Nat→Bool) (a:List Bool),(a.length:Int)=n+1→(∀i:Nat,1≤i→(i:Int)≤n→F i=a.getD i false)→Sat F (gateT t nx cs).2.2→q3e F (gateT t nx cs).1=q3l a t
 |0,t,h=>by omega
 |N+1,.node q v k l,hN=>by
  intro nx cs hf h1 hn hc
  obtain⟨hm,h4,hl⟩:=hf
  have key:∀(l:List Tree),q0p l<N→x3m n l→∀(nx:Int) (cs:List q7z),1≤nx→n<nx→(∀x∈cs,GC nx x)→
   (∀F,Sat F (gateL l nx cs).2.2→Sat F cs)∧(∀F0,Sat F0 cs→∃F,Agr nx F F0∧Sat F (gateL l nx cs).2.2)∧
   ∀(F:Nat→Bool) (a:List Bool),(a.length:Int)=n+1→(∀i:Nat,1≤i→(i:Int)≤n→F i=a.getD i false)→Sat F (gateL l nx cs).2.2→(gateL l nx cs).1.map (q3e F)=l.map (q3l a):=by
   intro l
   induction l with
   |nil=>exact fun _ _ nx cs _ _ _=>⟨fun F h=>h,fun F0 h=>⟨F0,fun _ _=>rfl,h⟩,fun F a _ _ _=>rfl⟩
   |cons t l ih=>
    intro hs hfl nx cs h1 hn hc
    simp only[q0p]at hs
    have hp:=y9p t
    obtain⟨hf1,hf2⟩:=hfl
    obtain⟨a1,a2,a3⟩:=u8v N t (by omega) nx cs hf1 h1 hn hc
    have hx1:=j1t t nx cs
    have hT:=v0r t nx cs hf1 h1 hn hc
    rw[←hx1]at hT
    obtain⟨b1,b2,b3⟩:=ih (by omega) hf2 (gateT t nx cs).2.1 (gateT t nx cs).2.2 (by omega) (by omega) hT
    refine⟨fun F h=>a1 F (b1 F h),fun F0 h=>?_,fun F a ha hag h=>?_⟩
    ·obtain⟨F1,e1,e2⟩:=a2 F0 h
     obtain⟨F,e3,e4⟩:=b2 F1 e2
     exact⟨F,fun j hj=>(e3 j (by omega)).trans (e1 j hj),e4⟩
    ·rw[gateL,Qc6,Qc6,a3 F a ha hag (b1 F h)]
     rw[show(gateL l (gateT t nx cs).2.1 (gateT t nx cs).2.2).1.map (q3e F)=l.map (q3l a)from b3 F a ha hag h]
  simp only[q2a]at hN
  obtain⟨k1,k2,k3⟩:=key l (by omega) hl nx cs h1 hn hc
  have hnx:=next_L l nx cs
  have hll:=k7x l nx cs hl h1 hn
  rw[←hnx]at hll
  have hgc:=v1u l nx cs hl h1 hn hc
  rw[←hnx]at hgc
  have hlen:=gateL_len l nx cs
  by_cases h2:q=2
  ·rw[gt_var h2]
   subst h2
   have hv:1≤v∧v≤n:=by
    simp[q5o]at hm
    omega
   refine⟨fun F h=>h,fun F0 h=>⟨F0,fun _ _=>rfl,h⟩,fun F a ha hag _=>?_⟩
   show q3e F v=_
   rw[y5c hv.1,hag v.toNat (by omega) (by omega),q3l]
   unfold y9z
   rw[if_neg (by decide),if_pos rfl,decide_eq_true hv.1,decide_eq_true (show v<(a.length:Int) by omega)]
   rfl
  ·by_cases h3:q=3
   ·rw[gt_not h2 h3]
    refine⟨k1,k2,fun F a ha hag hs=>?_⟩
    have hb:=k3 F a ha hag hs
    subst h3
    have h1l:l.length=1:=by
     simp[q5o]at hm
     omega
    obtain⟨t,rfl⟩:∃t,l=[t]:=by
     cases l with
     |nil=>cases h1l
     |cons t l=>cases l with
      |nil=>exact⟨t,rfl⟩
      |cons _ _=>simp at h1l
    generalize (gateL [t] nx cs).1=ls at hlen hb hll⊢
    obtain⟨z,rfl⟩:∃z,ls=[z]:=by
     cases ls with
     |nil=>cases hlen
     |cons z ls=>cases ls with
      |nil=>exact⟨z,rfl⟩
      |cons _ _=>simp at hlen
    have hz:=(hll z Qb4).1
    have hb1:q3e F z=q3l a t:=by injection hb
    show q3e F (-z)=_
    rw[Cn.j6y F z hz,hb1,q3l]
    unfold y9z x2g x2g
    rw[if_neg (by decide),if_neg (by decide),if_pos rfl]
    cases q3l a t<;>rfl
   ·rw[gt_one h2 h3]
    have hz0:∀z∈(gateL l nx cs).1,z≠0:=fun z hz=>(hll z hz).1
    have hx1:1≤(gateL l nx cs).2.1:=by omega
    refine⟨fun F h=>k1 F (Sat.app.1 h).1,fun F0 h=>?_,fun F a ha hag hs=>?_⟩
    ·obtain⟨F1,e1,e2⟩:=k2 F0 h
     obtain⟨F,hF⟩:∃F:Nat→Bool,F=fun j:Nat=>if(j:Int)=(gateL l nx cs).2.1 then decide (kG q v k l.length≤((gateL l nx cs).1.countP (q3e F1):Int))else F1 j:=⟨_,rfl⟩
     have hag:Agr (gateL l nx cs).2.1 F F1:=fun j hj=>by rw[hF];exact if_neg (by omega)
     refine⟨F,fun j hj=>(hag j (by omega)).trans (e1 j hj),Sat.app.2 ⟨u7x hag hgc e2,(y0r hx1 hz0).2 ?_⟩⟩
     rw[u9r hag hll]
     have:F (gateL l nx cs).2.1.toNat=decide (kG q v k l.length≤((gateL l nx cs).1.countP (q3e F1):Int)):=by rw[hF];exact if_pos (by omega)
     rw[this,decide_eq_true_eq]
    ·obtain⟨s1,s2⟩:=Sat.app.1 hs
     have hb:=k3 F a ha hag s1
     have hfs:=(y0r hx1 hz0).1 s2
     have hcb:(gateL l nx cs).1.countP (q3e F)=(l.map (q3l a)).countP id:=by
      rw[←hb,Qp2];rfl
     show q3e F (gateL l nx cs).2.1=_
     rw[y5c hx1,q3l,j7a]
     rw[hcb]at hfs
     have hcl:(l.map (q3l a)).countP id≤l.length:=by
      have:=List.countP_le_length (p:=id) (l:=l.map (q3l a))
      rwa [Qa9]at this
     have hbl:(l.map (q3l a)).length=l.length:=Qa9 _
     generalize (l.map (q3l a))=bs at hfs hcl hbl⊢
     rw[Qh3,hfs]
     unfold y9z kG
     rcases v3v hm h2 h3 with e|e|e|e
     ·subst e
      have hv:=(v2o hm).1 rfl
      rw[if_pos rfl,if_pos rfl,beq_iff_eq]
      have h0:l.length=0:=(v2o hm).2 rfl
      omega
     ·subst e
      rw[if_neg (by decide),if_pos rfl,if_neg (by decide),if_neg (by decide),if_neg (by decide),if_pos rfl,beq_iff_eq]
      omega
     ·subst e
      rw[if_neg (by decide),if_neg (by decide),if_pos rfl,if_neg (by decide),if_neg (by decide),if_neg (by decide),if_neg (by decide),if_pos rfl,decide_eq_true_eq]
      omega
     ·subst e
      rw[if_neg (by decide),if_neg (by decide),if_neg (by decide),if_neg (by decide),if_neg (by decide),if_neg (by decide),if_neg (by decide),if_neg (by decide),if_pos rfl,decide_eq_true_eq]
end Go.Proofs.YteikjpbbhopkaaaGreatDoor.Gt
