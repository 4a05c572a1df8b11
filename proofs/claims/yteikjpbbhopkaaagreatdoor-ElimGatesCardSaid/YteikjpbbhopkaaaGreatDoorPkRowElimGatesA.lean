/-Lemmas and contracts for the row. -/
import Derived.Test.YteikjpbbhopkaaaGreatDoorPkRowElimGatesQQ
set_option linter.unusedVariables false
set_option linter.unusedSimpArgs false
set_option linter.unnecessarySimpa false
namespace Go.Proofs.YteikjpbbhopkaaaGreatDoor
def prs (l:List Int) (i:Nat):List (Int×Int):=(List.range i).flatMap fun a=>(l.drop (a+1)).map fun y=>(l.getD a 0,y)
def sgn (n i:Nat) (x:Int):Int:=if n.testBit i then-x else x
def z5s (l:List Int) (n k:Nat):List Int:=l.mapIdx fun i x=>if i<k then sgn n i x else x
def pop8 (n:Nat):Nat:=[0,1,1,2,1,2,2,3].getD n 0
def u7o (n:Nat):Bool:=pop8 n%2==1
def y1k (l:List Int) (s:Int) (n:Nat):List Int:=z5s l n l.length++[if u7o n then s else-s]
def q7y (l:List Int) (s c:Int):List (List Int):=
 (List.range (2^l.length)).map (y1k l s)++(prs l l.length).map (fun q=>[-q.1,-q.2,c])++
  if l.length=2 then[[l.getD 0 0,-c],[l.getD 1 0,-c]]else(prs l l.length).map (fun q=>[q.1,q.2,-c])
def z0l (rows:Int→List Int) (k x:Int):Int→List Int:=fun j=>if j=k then rows k++[x]else rows j
def x5j (rows:Int→List Int) (k:Int) (l:List Int):Int→List Int:=fun j=>if j=k then l else rows j
abbrev Fd:=(Int→List Int)×Int
def feed1 (s:Fd) (x:Int) (k:Nat):Fd:=(z0l s.1 k x,max s.2 (k+1))
def feedTo (n:Nat) (x:Int) (s:Fd) (j:Nat):Fd:=(List.range j).foldl (fun s k=>if n.testBit k then feed1 s x k else s) s
def q0n (s:Fd) (cl:List (Int×Int)):Fd:=cl.foldl (fun s q=>feedTo q.1.toNat q.2 s 64) s
def fd0:Fd:=(fun _=>[],0)
theorem q2i (n:Nat) (x:Int) (s:Fd) (j:Nat):feedTo n x s (j+1)=if n.testBit j then feed1 (feedTo n x s j) x j else feedTo n x s j:=by
 simp[feedTo,Qe8]
theorem z7j (n : Nat) (x : Int) (s : Fd) (j t : Nat) (hjt : j ≤ t) (h : ∀ k, j ≤ k → k < t → n.testBit k = false) : feedTo n x s t = feedTo n x s j := by
  induction t with
  | zero => have : j = 0 := by omega
            subst this; rfl
  | succ t ih =>
    by_cases e : j = t + 1
    · subst e; rfl
    · rw [q2i, h t (by omega) (by omega), if_neg (by simp), ih (by omega) (fun k hk hk' => h k hk (by omega))]
theorem y1v (s:Fd) (cl:List (Int×Int)) (q:Int×Int):q0n s (cl++[q])=feedTo q.1.toNat q.2 (q0n s cl) 64:=by simp[q0n]
structure Ps where
 rows:Int→List Int
 cs:List (List Int)
 nx:Int
 top:Int
def q1f (k:Int) (s:Ps):Ps:=
 {rows:=z0l (z0l (x5j s.rows k ((s.rows k).drop 3)) k s.nx) (k+1) (s.nx+1),cs:=s.cs++q7y ((s.rows k).take 3) s.nx (s.nx+1),nx:=s.nx+2,top:=max (max s.top (k+1)) (k+1+1)}
def q5y:Nat→Int→Ps→List Int→Option (List Int×List (List Int)×Int)
 |0,_,_,_=>none
 |f+1,k,s,out=>
  if k<s.top then
   if 1<(s.rows k).length then
    if 65537<s.nx+2 then none else q5y f k (q1f k s) out
   else q5y f (k+1) s (out++[(s.rows k).headD 0])
  else some (out,s.cs,s.nx)
def q8h:Nat:=300000
def z8n (next:Int) (q:Int×Int):Bool:=decide (0≤q.1)&&decide (q.1≤1099511627776)&&decide (q.2≠0)&&decide (q.2<next)&&decide (-next<q.2)
inductive u7l where
 |err (e:Int)
 |ok (bits:List Int) (cs:List (List Int)) (after:Int)
def z1o (coef l:List Int) (next:Int):u7l:=
 if next<1∨65537<next∨coef.length≠l.length then .err 1
 else if(coef.zip l).all (z8n next)=false then .err 1
 else if 4096<l.length then .err 2
 else match q5y q8h 0 {rows:=(q0n fd0 (coef.zip l)).1,cs:=[],nx:=next,top:=(q0n fd0 (coef.zip l)).2} []with
  |none=>.err 2
  |some r=>.ok r.1 r.2.1 r.2.2
theorem k5g (n:Nat):∀(t m:Nat),n=2^t*(2*m+1)→n&&&(n-1)=2^(t+1)*m∧n.testBit t=true∧∀k,k<t→n.testBit k=false:=by
 intro t m hn
 have hb:∀k,n.testBit k=(decide (t≤k)&&(2*m+1).testBit (k-t)):=fun k=>by rw[hn,Qk3,Qi6]
 have hp:0<2^t:=Nat.two_pow_pos t
 refine⟨?_,?_,fun k hk=>?_⟩
 ·have e1:n-1=2^(t+1)*m+(2^t-1):=by
   rw[hn,Qo1,Nat.mul_add,Nat.mul_assoc]
   omega
  apply Nat.eq_of_testBit_eq
  intro k
  rw[Nat.testBit_and,hb k,e1,Qk3 (2^(t+1)) m]
  have e2:(m*2^(t+1)+(2^t-1)).testBit k=if k<t+1 then(2^t-1).testBit k else m.testBit (k-(t+1)):=by
   rw[Qk3]
   exact Qp4 m (by rw[Qo1];omega) k
  rw[e2,Qi6,Nat.testBit_two_pow_sub_one]
  by_cases hk:k<t+1
  ·rw[if_pos hk]
   by_cases hkt:k<t
   ·have:¬t≤k:=by omega
    have h3:¬t+1≤k:=by omega
    simp[this,h3]
   ·have:k=t:=by omega
    subst this
    have h3:¬k+1≤k:=by omega
    simp[h3]
  ·rw[if_neg hk]
   have h1:t≤k:=by omega
   have h2:t+1≤k:=by omega
   obtain⟨d,rfl⟩:∃d,k=t+1+d:=⟨k-(t+1),by omega⟩
   rw[show t+1+d-t=d+1 by omega,show t+1+d-(t+1)=d by omega,Qe4,show(2*m+1)/2=m by omega]
   simp[h1]
 ·rw[hb];simp[Qm7]
 ·rw[hb]
  have:¬t≤k:=by omega
  simp[this]
end Go.Proofs.YteikjpbbhopkaaaGreatDoor
namespace Go.Proofs.YteikjpbbhopkaaaGreatDoor
theorem z1x (c j k:Nat):(c/2^j*2^j).testBit k=(decide (j≤k)&&c.testBit k):=by
 rw[Qi6]
 by_cases h:j≤k
 ·rw[Nat.testBit_div_two_pow,show k-j+j=k by omega]
 ·simp[h]
theorem j9i (c j n t m:Nat) (hn:n=c/2^j*2^j) (hnt:n=2^t*(2*m+1)):
 j≤t∧c.testBit t=true∧(∀k,j≤k→k<t→c.testBit k=false)∧n&&&(n-1)=c/2^(t+1)*2^(t+1):=by
 obtain⟨h1,h2,h3⟩:=k5g n t m hnt
 have hb:∀k,n.testBit k=(decide (j≤k)&&c.testBit k):=fun k=>by rw[hn,z1x]
 have hjt:j≤t:=by
  have:=hb t
  rw[h2]at this
  simp at this
  exact this.1
 refine⟨hjt,?_,fun k hk hk'=>?_,?_⟩
 ·have:=hb t
  rw[h2]at this
  simp at this
  exact this.2
 ·have:=hb k
  rw[h3 k hk']at this
  simpa[hk]using this.symm
 ·rw[h1]
  apply Nat.eq_of_testBit_eq
  intro k
  rw[z1x,Qk3,Qi6]
  by_cases hk:t+1≤k
  ·have h4:=hb k
   rw[hnt,Qk3,Qi6]at h4
   obtain⟨d,rfl⟩:∃d,k=t+1+d:=⟨k-(t+1),by omega⟩
   rw[show t+1+d-t=d+1 by omega,Qe4,show(2*m+1)/2=m by omega]at h4
   rw[show t+1+d-(t+1)=d by omega]
   have h5:t≤t+1+d:=by omega
   have h6:j≤t+1+d:=by omega
   simp only[h5,h6,decide_true,Qk6]at h4
   simp[h4]
  ·simp[hk]
theorem k8d (c j:Nat) (x:Int) (s:Fd) (hj:j≤64) (h:c/2^j*2^j=0):feedTo c x s 64=feedTo c x s j:=
 z7j c x s j 64 hj (fun k hk _=>by
  have:=z1x c j k
  rw[h]at this
  simpa[hk]using this.symm)
def q2f (s:Fd) (n:Nat):Prop:=(∀j,(s.1 j).length≤n)∧0≤s.2∧s.2≤64
theorem q2f.feed1 {s:Fd} {n:Nat} (h:q2f s n) (x:Int) {k:Nat} (hk:k<64):q2f (feed1 s x k) (n+1):=by
 obtain⟨h1,h2,h3⟩:=h
 refine⟨fun j=>?_,?_,?_⟩
 ·simp only[Go.Proofs.YteikjpbbhopkaaaGreatDoor.feed1,z0l]
  split
  ·rw[Qa3];have:=h1 k;simp;omega
  ·have:=h1 j;omega
 ·simp only[Go.Proofs.YteikjpbbhopkaaaGreatDoor.feed1];omega
 ·simp only[Go.Proofs.YteikjpbbhopkaaaGreatDoor.feed1];omega
theorem q2f.mono {s:Fd} {n n':Nat} (h:q2f s n) (hn:n≤n'):q2f s n':=⟨fun j=>Qc0 (h.1 j) hn,h.2⟩
theorem q2f.feedTo {s:Fd} {n:Nat} (h:q2f s n) (c:Nat) (x:Int):∀(j:Nat),j≤64→q2f (feedTo c x s j) (n+j)
 |0,_=>h
 |j+1,hj=>by
  rw[q2i]
  have ih:=q2f.feedTo h c x j (by omega)
  split
  ·exact ih.feed1 x (by omega)
  ·exact ih.mono (by omega)
theorem q2f.all:∀(cl:List (Int×Int)) (s:Fd) (n:Nat),q2f s n→q2f (q0n s cl) (n+64*cl.length)
 |[],_,_,h=>h
 |q::cl,s,n,h=>by
  have:=q2f.all cl _ _ (h.feedTo q.1.toNat q.2 64 (Qb8 _))
  simp only[q0n,Qe2,Qa8]at this⊢
  exact this.mono (by omega)
theorem q2f.zero:q2f fd0 0:=⟨fun _=>Qb8 _,by decide,by decide⟩
def ext (o:List Int) (rows:Int→List Int):Int→List Int:=fun j=>if j= -1 then o else rows j
theorem x9i (o:List Int) (rows:Int→List Int) (k:Int) (hk:0≤k):ext o rows k=rows k:=by unfold ext;rw[if_neg (by omega)]
theorem x0f (o:List Int) (rows:Int→List Int) (k x:Int) (hk:0≤k):z0l (ext o rows) k x=ext o (z0l rows k x):=by
 funext j
 simp only[z0l,ext]
 by_cases h:j=k
 ·subst h;rw[if_pos rfl,if_neg (by omega),if_neg (by omega),if_pos rfl]
 ·rw[if_neg h,if_neg h]
theorem j7u (o:List Int) (rows:Int→List Int) (k:Int) (zs:List Int) (hk:0≤k):(fun j=>if j=k then zs else ext o rows j)=ext o (x5j rows k zs):=by
 funext j
 simp only[x5j,ext]
 by_cases h:j=k
 ·subst h;rw[if_pos rfl,if_neg (by omega),if_pos rfl]
 ·rw[if_neg h,if_neg h]
theorem k6z (o zs:List Int) (rows:Int→List Int):(fun j=>if j= -1 then zs else ext o rows j)=ext zs rows:=by
 funext j
 simp only[ext]
 split<;>rfl
theorem z7h:∀(cl:List (Int×Int)) (s:Fd),s.1 (-1)=[]→(q0n s cl).1 (-1)=[]
 |[],_,h=>h
 |q::cl,s,h=>by
  have h1:∀j,(feedTo q.1.toNat q.2 s j).1 (-1)=[]:=fun j=>by
   induction j with
   |zero=>exact h
   |succ j ih=>
    rw[q2i]
    split
    ·simp only[feed1,z0l]
     rw[if_neg (by omega)]
     exact ih
    ·exact ih
  simpa[q0n]using z7h cl _ (h1 64)
theorem u5s (rows:Int→List Int) (h:rows (-1)=[]):ext [] rows=rows:=by
 funext j
 simp only[ext]
 split
 ·rename_i hj;rw[hj,h]
 ·rfl
structure k5z (next:Int) (s:Ps):Prop where
 lo:1≤next
 nx:next≤s.nx
 hi:s.nx≤65537
 len:∀j,((s.rows j).length:Int)≤262144+(s.nx-next)
 cl:(s.cs.length:Int)≤100*(s.nx-next)
 top0:0≤s.top
 top:s.top≤64+(s.nx-next)
 lit:∀j,∀x∈s.rows j,-70000≤x∧x≤70000
theorem k4j (l:List Int) (s c:Int) (h:l.length≤3):(q7y l s c).length≤30:=by
 have hp:(prs l l.length).length≤9:=by
  have:∀i,(prs l i).length≤i*l.length:=fun i=>by
   induction i with
   |zero=>simp[prs]
   |succ i ih=>
    have e:prs l (i+1)=prs l i++(l.drop (i+1)).map fun y=>(l.getD i 0,y):=by simp[prs,Qe8]
    rw[e,Qa3,Qa9,Qg2,Qk5];omega
  have h2:=this l.length
  have h3:l.length*l.length≤3*3:=Nat.mul_le_mul h h
  omega
 have h8:2^l.length≤8:=Qc0 (Qi3 (by decide) h) (by decide)
 unfold q7y
 simp only[Qa3,Qa9,Qg4]
 split
 ·simp;omega
 ·simp only[Qa9];omega
theorem k5z.step {next:Int} {s:Ps} (h:k5z next s) (k:Int) (_hk:0≤k) (hkt:k<s.top) (hn:s.nx+2≤65537):k5z next (q1f k s):=by
 have hnx:=h.nx
 refine⟨h.lo,by simp only[q1f];omega,by simp only[q1f];omega,fun j=>?_,?_,?_,?_,fun j x hx=>?_⟩
 ·simp only[q1f,z0l,x5j]
  have h1:=h.len j
  have h2:=h.len k
  have h3:=h.len (k+1)
  by_cases hj:j=k+1
  ·subst hj
   have e:¬k+1=k:=by omega
   simp only[if_true,e,if_false,Qa3,Qi1]
   omega
  ·by_cases hj':j=k
   ·subst hj'
    simp only[hj,if_false,if_true,Qa3,Qi1,Qg2]
    omega
   ·simp only[hj,hj',if_false]
    omega
 ·simp only[q1f,Qa3]
  have:=k4j ((s.rows k).take 3) s.nx (s.nx+1) (by simp;omega)
  have:=h.cl
  omega
 ·simp only[q1f];have:=h.top0;omega
 ·simp only[q1f];have:=h.top;omega
 ·simp only[q1f,z0l,x5j]at hx
  have hl:=h.lo
  have hhi:=h.hi
  by_cases hj:j=k+1
  ·subst hj
   have e:¬k+1=k:=by omega
   simp only[if_true,e,if_false,Qf4,Qe0]at hx
   rcases hx with hx|hx
   ·exact h.lit _ x hx
   ·omega
  ·by_cases hj':j=k
   ·subst hj'
    simp only[hj,if_false,if_true,Qf4,Qe0]at hx
    rcases hx with hx|hx
    ·exact h.lit _ x (List.mem_of_mem_drop hx)
    ·omega
   ·simp only[hj,hj',if_false]at hx
    exact h.lit _ x hx
theorem k7y {f:Nat} {k:Int} {s:Ps} {o:List Int} (h1:k<s.top) (h2:1<(s.rows k).length) (h3:s.nx+2≤65537):q5y (f+1) k s o=q5y f k (q1f k s) o:=by
 rw[q5y,if_pos h1,if_pos h2,if_neg (by omega)]
theorem x7g {f:Nat} {k:Int} {s:Ps} {o:List Int} (h1:k<s.top) (h2:1<(s.rows k).length) (h3:65537<s.nx+2):q5y (f+1) k s o=none:=by
 rw[q5y,if_pos h1,if_pos h2,if_pos h3]
theorem x9u {f:Nat} {k:Int} {s:Ps} {o:List Int} (h1:k<s.top) (h2:¬1<(s.rows k).length):q5y (f+1) k s o=q5y f (k+1) s (o++[(s.rows k).headD 0]):=by
 rw[q5y,if_pos h1,if_neg h2]
theorem k9a {f:Nat} {k:Int} {s:Ps} {o:List Int} (h1:¬k<s.top):q5y (f+1) k s o=some (o,s.cs,s.nx):=by
 rw[q5y,if_neg h1]
theorem z5p:∀(cl:List (Int×Int)) (s:Fd) (M:Int),(∀j,∀x∈s.1 j,-M≤x∧x≤M)→(∀q∈cl,-M≤q.2∧q.2≤M)→∀j,∀x∈(q0n s cl).1 j,-M≤x∧x≤M
 |[],_,_,h,_=>h
 |q::cl,s,M,h,hq=>by
  have h1:∀t,∀j,∀x∈(feedTo q.1.toNat q.2 s t).1 j,-M≤x∧x≤M:=fun t=>by
   induction t with
   |zero=>exact h
   |succ t ih=>
    rw[q2i]
    split
    ·intro j x hx
     simp only[feed1,z0l]at hx
     split at hx
     ·rcases List.mem_append.1 hx with hx|hx
      ·exact ih _ x hx
      ·rw[Qe0]at hx;rw[hx];exact hq q (by simp)
     ·exact ih _ x hx
    ·exact ih
  have:=z5p cl _ M (h1 64) (fun q' hq'=>hq q' (by simp[hq']))
  simpa[q0n]using this
end Go.Proofs.YteikjpbbhopkaaaGreatDoor
namespace Go.Proofs.YteikjpbbhopkaaaGreatDoor
theorem z7r (next:Int):∀(f:Nat) (k:Int) (s:Ps) (o:List Int) (r:List Int×List (List Int)×Int),k5z next s→0≤k→k≤s.top→(o.length:Int)=k→(∀c∈s.cs,c.length≤100)→q5y f k s o=some r→
 r.1.length≤70000∧r.2.1.length≤7000000∧∀c∈r.2.1,c.length≤100
 |0,_,_,_,_,_,_,_,_,_,h=>by simp[q5y]at h
 |f+1,k,s,o,r,hs,hk0,hk,ho,hc,h=>by
  rw[q5y]at h
  by_cases h1:k<s.top
  ·rw[if_pos h1]at h
   by_cases h2:1<(s.rows k).length
   ·rw[if_pos h2]at h
    by_cases h3:65537<s.nx+2
    ·rw[if_pos h3]at h;cases h
    ·rw[if_neg h3]at h
     refine z7r next f k _ o r (hs.step k hk0 h1 (by omega)) hk0 (by simp only[q1f];omega) ho (fun c hcm=>?_) h
     simp only[q1f,Qf4]at hcm
     rcases hcm with hcm|hcm
     ·exact hc c hcm
     ·have hl3:((s.rows k).take 3).length≤3:=by simp;omega
      generalize (s.rows k).take 3=l at hcm hl3
      unfold q7y at hcm
      simp only[Qf4,Qo0]at hcm
      rcases hcm with(⟨n,_,rfl⟩|⟨q,_,rfl⟩)|hcm
      ·simp[y1k,z5s];omega
      ·simp
      ·split at hcm
       ·simp at hcm;rcases hcm with rfl|rfl<;>simp
       ·simp only[Qo0]at hcm;obtain⟨q,_,rfl⟩:=hcm;simp
   ·rw[if_neg h2]at h
    exact z7r next f (k+1) s _ r hs (by omega) (by omega) (by rw[Qa3,Qi1];omega) hc h
  ·rw[if_neg h1]at h
   injection h with h
   subst h
   have a:=hs.top
   have b:=hs.cl
   have c:=hs.hi
   have d:=hs.lo
   exact⟨by simp only;omega,by simp only;omega,hc⟩
theorem x6m {coef l:List Int} {next:Int} {bits:List Int} {cs:List (List Int)} {after:Int} (h:z1o coef l next=.ok bits cs after):bits.length≤70000∧cs.length≤7000000∧∀c∈cs,c.length≤100:=by
 unfold z1o at h
 split at h
 ·cases h
 ·split at h
  ·cases h
  ·split at h
   ·cases h
   ·rename_i h1 h2 h3
    generalize hr:q5y q8h 0 {rows:=(q0n fd0 (coef.zip l)).1,cs:=[],nx:=next,top:=(q0n fd0 (coef.zip l)).2} []=o at h
    cases o with
    |none=>cases h
    |some r=>
     simp only at h
     injection h with e1 e2 e3
     subst e1 e2 e3
     have hall:∀q∈coef.zip l,z8n next q=true:=by simpa using h2
     have ok:=q2f.all (coef.zip l) fd0 0 q2f.zero
     have hlit:=z5p (coef.zip l) fd0 70000 (fun j x hx=>by simp[fd0]at hx) (fun q hq=>by have:=hall q hq;simp[z8n]at this;omega)
     refine z7r next q8h 0 _ [] r ⟨by omega,Qe6 _,by simp only;omega,fun j=>?_,by simp,ok.2.1,by have:=ok.2.2;simp only;omega,hlit⟩ (Qe6 _) ok.2.1 rfl (fun c hc=>by simp at hc) hr
     have:=ok.1 j
     rw[Qf9]at this
     simp only;omega
theorem j6x (next:Int):∀(f:Nat) (k:Int) (s:Ps) (o:List Int) (r:List Int×List (List Int)×Int),k5z next s→0≤k→k≤s.top→q5y f k s o=some r→next≤r.2.2∧r.2.2≤65537
 |0,_,_,_,_,_,_,_,h=>by simp[q5y]at h
 |f+1,k,s,o,r,hs,hk0,hk,h=>by
  rw[q5y]at h
  by_cases h1:k<s.top
  ·rw[if_pos h1]at h
   by_cases h2:1<(s.rows k).length
   ·rw[if_pos h2]at h
    by_cases h3:65537<s.nx+2
    ·rw[if_pos h3]at h;cases h
    ·rw[if_neg h3]at h
     exact j6x next f k _ o r (hs.step k hk0 h1 (by omega)) hk0 (by simp only[q1f];omega) h
   ·rw[if_neg h2]at h
    exact j6x next f (k+1) s _ r hs (by omega) (by omega) h
  ·rw[if_neg h1]at h
   injection h with h
   subst h
   exact⟨hs.nx,hs.hi⟩
theorem k7v {coef l:List Int} {next:Int} {bits:List Int} {cs:List (List Int)} {after:Int} (h:z1o coef l next=.ok bits cs after):1≤next∧next≤after∧after≤65537:=by
 unfold z1o at h
 split at h
 ·cases h
 ·split at h
  ·cases h
  ·split at h
   ·cases h
   ·rename_i h1 h2 h3
    generalize hr:q5y q8h 0 {rows:=(q0n fd0 (coef.zip l)).1,cs:=[],nx:=next,top:=(q0n fd0 (coef.zip l)).2} []=o at h
    cases o with
    |none=>cases h
    |some r=>
     simp only at h
     injection h with e1 e2 e3
     subst e1 e2 e3
     have hall:∀q∈coef.zip l,z8n next q=true:=by simpa using h2
     have ok:=q2f.all (coef.zip l) fd0 0 q2f.zero
     have hlit:=z5p (coef.zip l) fd0 70000 (fun j x hx=>by simp[fd0]at hx) (fun q hq=>by have:=hall q hq;simp[z8n]at this;omega)
     refine⟨by omega,j6x next q8h 0 _ [] r ⟨by omega,Qe6 _,by simp only;omega,fun j=>?_,by simp,ok.2.1,by have:=ok.2.2;simp only;omega,hlit⟩ (Qe6 _) ok.2.1 hr⟩
     have:=ok.1 j
     rw[Qf9]at this
     simp only;omega
end Go.Proofs.YteikjpbbhopkaaaGreatDoor
namespace Go.Proofs.YteikjpbbhopkaaaGreatDoor
def j8w (K:Nat) (bits:List Int) (t i:Nat):Bool:=bits.getD i 0 !=0&&(i==t||(decide (t<i)&& !K.testBit i))
def j1f (bits:List Int) (K t i:Nat):List Int:=((List.range i).filter (j8w K bits t)).map (fun j=>bits.getD j 0)
def q1x (bits:List Int) (K j:Nat):List (List Int):=((List.range j).filter K.testBit).map fun t=>j1f bits K t bits.length
def u4z (x:Int):Bool:=decide (x< -65536)||decide (65536<x)
inductive u1q where
 |err (e:Int)
 |ok (cs:List (List Int))
def q3d (bits:List Int) (k:Int):u1q:=
 if k<0∨4503599627370496<k∨bits.any u4z=true then .err 1 else if 60<bits.length then .err 2 else .ok (q1x bits k.toNat 64)
theorem k3n (bits:List Int) (K t i:Nat):j1f bits K t (i+1)=j1f bits K t i++if j8w K bits t i then[bits.getD i 0]else[]:=by
 unfold j1f
 rw[Qe8,Qe1,Qd4]
 congr 1
 by_cases h:j8w K bits t i=true
 ·simp[h]
 ·simp[h]
theorem y9x (bits:List Int) (K t i:Nat):(j1f bits K t i).length≤i:=by
 unfold j1f
 rw[Qa9]
 exact Qc0 (Qd8 _ _) (by simp)
theorem z4o (bits:List Int) (K j:Nat):q1x bits K (j+1)=q1x bits K j++if K.testBit j then[j1f bits K j bits.length]else[]:=by
 unfold q1x
 rw[Qe8,Qe1,Qd4]
 congr 1
 by_cases h:K.testBit j=true
 ·simp[h]
 ·simp[h]
theorem j0d (bits:List Int) (K j:Nat):(q1x bits K j).length≤j:=by
 unfold q1x
 rw[Qa9]
 exact Qc0 (Qd8 _ _) (by simp)
theorem z5b (bits : List Int) (K j t : Nat) (hjt : j ≤ t) (h : ∀ k, j ≤ k → k < t → K.testBit k = false) : q1x bits K t = q1x bits K j := by
  induction t with
  | zero => have : j = 0 := by omega
            subst this; rfl
  | succ t ih =>
    by_cases e : j = t + 1
    · subst e; rfl
    · rw [z4o, h t (by omega) (by omega), if_neg (by simp), Qf5, ih (by omega) (fun k hk hk' => h k hk (by omega))]
theorem y7c (bits:List Int) (K j:Nat) (hj:j≤64) (h:K/2^j*2^j=0):q1x bits K 64=q1x bits K j:=
 z5b bits K j 64 hj (fun k hk _=>by
  have:=z1x K j k
  rw[h]at this
  simpa[hk]using this.symm)
end Go.Proofs.YteikjpbbhopkaaaGreatDoor
namespace Go.Proofs.YteikjpbbhopkaaaGreatDoor
def q0x (n x:Int):Prop:=x≠0∧-n<x∧x<n
theorem q0x.mono {n m x:Int} (h:q0x n x) (hm:n≤m):q0x m x:=⟨h.1,by have:=h.2;omega,by have:=h.2;omega⟩
theorem q0x.neg {n x:Int} (h:q0x n x):q0x n (-x):=⟨by have:=h.1;omega,by have:=h.2;omega,by have:=h.2;omega⟩
structure k9e (next:Int) (s:Ps):Prop where
 lo1:1≤s.nx
 nx:next≤s.nx
 ev:(s.nx-next)%2=0
 row:∀j,∀x∈s.rows j,q0x s.nx x
 cls:∀c∈s.cs,∀x∈c,q0x s.nx x
 lo:7*(s.nx-next)≤2*(s.cs.length:Int)
 hi:(s.cs.length:Int)≤7*(s.nx-next)
theorem z2j (a b s c:Int):q7y [a,b] s c=[[a,b,-s],[-a,b,s],[a,-b,s],[-a,-b,-s],[-a,-b,c],[a,-c],[b,-c]]:=by
 simp[q7y,prs,y1k,z5s,sgn,u7o,pop8,Qe8,Qe4]
theorem q6o (a b d s c:Int):q7y [a,b,d] s c=[[a,b,d,-s],[-a,b,d,s],[a,-b,d,s],[-a,-b,d,-s],[a,b,-d,s],[-a,b,-d,-s],[a,-b,-d,-s],[-a,-b,-d,s],
 [-a,-b,c],[-a,-d,c],[-b,-d,c],[a,b,-c],[a,d,-c],[b,d,-c]]:=by
 simp[q7y,prs,y1k,z5s,sgn,u7o,pop8,Qe8,Qe4]
theorem q2y (l:List Int) (h:1<l.length):(∃a b,l.take 3=[a,b]∧l=[a,b])∨∃a b c t,l.take 3=[a,b,c]∧l=a::b::c::t:=by
 rcases l with _|⟨a,_|⟨b,_|⟨c,t⟩⟩⟩
 ·simp at h
 ·simp at h
 ·exact .inl ⟨a,b,rfl,rfl⟩
 ·exact .inr ⟨a,b,c,t,rfl,rfl⟩
theorem k2i (l:List Int) (n:Int) (hn:1≤n) (h:1<l.length) (hl:∀x∈l,q0x n x):
 (∀c∈q7y (l.take 3) n (n+1),∀x∈c,q0x (n+2) x)∧7≤(q7y (l.take 3) n (n+1)).length∧(q7y (l.take 3) n (n+1)).length≤14:=by
 have hs:q0x (n+2) n:=⟨by omega,by omega,by omega⟩
 have hc:q0x (n+2) (n+1):=⟨by omega,by omega,by omega⟩
 have hs':=hs.neg
 have hc':=hc.neg
 rcases q2y l h with⟨a,b,e,el⟩|⟨a,b,d,t,e,el⟩
 ·have ha:q0x (n+2) a:=(hl a (by simp[el])).mono (by omega)
  have hb:q0x (n+2) b:=(hl b (by simp[el])).mono (by omega)
  have ha':=ha.neg
  have hb':=hb.neg
  rw[e,z2j]
  refine⟨?_,by simp,by simp⟩
  simp only[Qf1,Qh7,or_false]
  rintro c (rfl|rfl|rfl|rfl|rfl|rfl|rfl) x hx<;>simp only[Qf1,Qh7,or_false]at hx
  all_goals (rcases hx with rfl|rfl|rfl<;>assumption)<;>(rcases hx with rfl|rfl<;>assumption)
 ·have ha:q0x (n+2) a:=(hl a (by simp[el])).mono (by omega)
  have hb:q0x (n+2) b:=(hl b (by simp[el])).mono (by omega)
  have hd:q0x (n+2) d:=(hl d (by simp[el])).mono (by omega)
  have ha':=ha.neg
  have hb':=hb.neg
  have hd':=hd.neg
  rw[e,q6o]
  refine⟨?_,by simp,by simp⟩
  simp only[Qf1,Qh7,or_false]
  rintro c (rfl|rfl|rfl|rfl|rfl|rfl|rfl|rfl|rfl|rfl|rfl|rfl|rfl|rfl) x hx<;>simp only[Qf1,Qh7,or_false]at hx
  all_goals first|(rcases hx with rfl|rfl|rfl|rfl<;>assumption)|(rcases hx with rfl|rfl|rfl<;>assumption)
theorem z5w {rows:Int→List Int} {k x j y:Int} (h:y∈z0l rows k x j):y∈rows j∨y=x:=by
 unfold z0l at h
 split at h
 ·rename_i e
  subst e
  rcases List.mem_append.1 h with h|h
  ·exact .inl h
  ·exact .inr (by simpa using h)
 ·exact .inl h
theorem k1p {k:Int} {s:Ps} {j y:Int} (h:y∈(q1f k s).rows j):(∃i,y∈s.rows i)∨y=s.nx∨y=s.nx+1:=by
 simp only[q1f]at h
 rcases z5w h with h|h
 ·rcases z5w h with h|h
  ·unfold x5j at h
   split at h
   ·exact .inl ⟨k,List.mem_of_mem_drop h⟩
   ·exact .inl ⟨j,h⟩
  ·exact .inr (.inl h)
 ·exact .inr (.inr h)
theorem k9e.step {next:Int} {s:Ps} (h:k9e next s) (k:Int) (h2:1<(s.rows k).length):k9e next (q1f k s):=by
 obtain⟨a1,a2,a3⟩:=k2i (s.rows k) s.nx h.lo1 h2 (h.row k)
 have e1:(q1f k s).nx=s.nx+2:=rfl
 have e2:(q1f k s).cs=s.cs++q7y ((s.rows k).take 3) s.nx (s.nx+1):=rfl
 have hlo:=h.lo1
 refine⟨by rw[e1];omega,by rw[e1];have:=h.nx;omega,by rw[e1];have:=h.ev;omega,fun j x hx=>?_,fun c hc x hx=>?_,?_,?_⟩
 ·rw[e1]
  rcases k1p hx with⟨i,hi⟩|rfl|rfl
  ·exact(h.row i x hi).mono (by omega)
  ·exact⟨by omega,by omega,by omega⟩
  ·exact⟨by omega,by omega,by omega⟩
 ·rw[e1]
  rw[e2]at hc
  rcases List.mem_append.1 hc with hc|hc
  ·exact(h.cls c hc x hx).mono (by omega)
  ·exact a1 c hc x hx
 ·rw[e1,e2,Qa3];have:=h.lo;omega
 ·rw[e1,e2,Qa3];have:=h.hi;omega
theorem z8e (next:Int):∀(f:Nat) (k:Int) (s:Ps) (o:List Int) (r:List Int×List (List Int)×Int),k9e next s→(∀b∈o,b=0∨q0x s.nx b)→q5y f k s o=some r→
 s.nx≤r.2.2∧(∀b∈r.1,b=0∨q0x r.2.2 b)∧k9e next {rows:=fun _=>[],cs:=r.2.1,nx:=r.2.2,top:=0}
 |0,_,_,_,_,_,_,h=>by simp[q5y]at h
 |f+1,k,s,o,r,hs,ho,h=>by
  rw[q5y]at h
  by_cases h1:k<s.top
  ·rw[if_pos h1]at h
   by_cases h2:1<(s.rows k).length
   ·rw[if_pos h2]at h
    by_cases h3:65537<s.nx+2
    ·rw[if_pos h3]at h;cases h
    ·rw[if_neg h3]at h
     have e1:(q1f k s).nx=s.nx+2:=rfl
     obtain⟨b1,b2⟩:=z8e next f k _ o r (hs.step k h2) (fun b hb=>(ho b hb).imp id (fun h=>h.mono (by rw[e1];omega))) h
     exact⟨by rw[e1]at b1;omega,b2⟩
   ·rw[if_neg h2]at h
    refine z8e next f (k+1) s _ r hs (fun b hb=>?_) h
    rcases List.mem_append.1 hb with hb|hb
    ·exact ho b hb
    ·rw[Qe0]at hb
     subst hb
     rcases hr:s.rows k with _|⟨y,t⟩
     ·exact .inl rfl
     ·exact .inr (hs.row k y (by simp[hr]))
  ·rw[if_neg h1]at h
   injection h with h
   subst h
   exact⟨Qe6 _,ho,⟨hs.lo1,hs.nx,hs.ev,fun j x hx=>by simp at hx,hs.cls,hs.lo,hs.hi⟩⟩
theorem z8r:∀(f:Nat) (k:Int) (s:Ps) (o:List Int) (r:List Int×List (List Int)×Int),q5y f k s o=some r→s.nx≤r.2.2
 |0,_,_,_,_,h=>by simp[q5y]at h
 |f+1,k,s,o,r,h=>by
  rw[q5y]at h
  by_cases h1:k<s.top
  ·rw[if_pos h1]at h
   by_cases h2:1<(s.rows k).length
   ·rw[if_pos h2]at h
    by_cases h3:65537<s.nx+2
    ·rw[if_pos h3]at h;cases h
    ·rw[if_neg h3]at h
     have:=z8r f k _ o r h
     have e1:(q1f k s).nx=s.nx+2:=rfl
     omega
   ·rw[if_neg h2]at h
    exact z8r f (k+1) s _ r h
  ·rw[if_neg h1]at h
   injection h with h
   subst h
   exact Qe6 _
theorem j8z:∀(f:Nat) (k:Int) (s:Ps) (o:List Int) (r:List Int×List (List Int)×Int),q5y f k s o=some r→r.2.2=s.nx→
 (r.1.length=o.length+(s.top-k).toNat)∧∀j,k≤j→j<s.top→(s.rows j).length≤1
 |0,_,_,_,_,h,_=>by simp[q5y]at h
 |f+1,k,s,o,r,h,hn=>by
  rw[q5y]at h
  by_cases h1:k<s.top
  ·rw[if_pos h1]at h
   by_cases h2:1<(s.rows k).length
   ·rw[if_pos h2]at h
    by_cases h3:65537<s.nx+2
    ·rw[if_pos h3]at h;cases h
    ·rw[if_neg h3]at h
     have:=z8r f k _ o r h
     have e1:(q1f k s).nx=s.nx+2:=rfl
     omega
   ·rw[if_neg h2]at h
    obtain⟨b1,b2⟩:=j8z f (k+1) s _ r h hn
    rw[Qa3,Qi1]at b1
    refine⟨by omega,fun j hj hj'=>?_⟩
    by_cases e:j=k
    ·subst e;omega
    ·exact b2 j (by omega) hj'
  ·rw[if_neg h1]at h
   injection h with h
   subst h
   exact⟨by simp only;omega,fun j hj hj'=>by omega⟩
def j0h (n j:Nat):Nat:=((List.range j).filter n.testBit).length
theorem x3o (n j:Nat):j0h n (j+1)=j0h n j+if n.testBit j then 1 else 0:=by
 unfold j0h
 rw[Qe8,Qe1,Qa3]
 congr 1
 by_cases h:n.testBit j=true<;>simp[h]
def j0f (rows:Int→List Int) (m:Nat):Nat:=((List.range m).map fun k:Nat=>(rows (k:Int)).length).sum
theorem z2m (rows:Int→List Int) (m:Nat):j0f rows (m+1)=j0f rows m+(rows (m:Int)).length:=by
 unfold j0f
 rw[Qe8,Qd4,List.sum_append]
 simp
theorem y0q (rows:Int→List Int) (k:Nat) (x:Int):∀m,j0f (z0l rows k x) m=j0f rows m+if k<m then 1 else 0
 |0=>by simp[j0f]
 |m+1=>by
  rw[z2m,z2m,y0q rows k x m]
  by_cases h:m=k
  ·subst h
   simp[z0l]
   omega
  ·have e:z0l rows (k:Int) x (m:Int)=rows (m:Int):=by unfold z0l;rw[if_neg (by omega)]
   rw[e]
   by_cases h2:k<m
   ·rw[if_pos h2,if_pos (by omega)];omega
   ·rw[if_neg h2,if_neg (by omega)];omega
theorem z1a (n:Nat) (x:Int) (s:Fd):∀j,j≤64→j0f (feedTo n x s j).1 64=j0f s.1 64+j0h n j
 |0,_=>by simp[feedTo,j0h]
 |j+1,hj=>by
  rw[q2i,x3o]
  split
  ·simp only[feed1]
   rw[y0q,z1a n x s j (by omega),if_pos (by omega)]
   omega
  ·rw[z1a n x s j (by omega)]
   omega
theorem z4m:∀(cl:List (Int×Int)) (s:Fd),j0f (q0n s cl).1 64=j0f s.1 64+(cl.map fun q=>j0h q.1.toNat 64).sum
 |[],s=>by simp[q0n]
 |q::cl,s=>by
  have e:q0n s (q::cl)=q0n (feedTo q.1.toNat q.2 s 64) cl:=rfl
  rw[e,z4m cl,z1a _ _ _ 64 (Qb8 _)]
  simp
  omega
def q2x (s:Fd):Prop:=∀j,s.2≤j→s.1 j=[]
theorem q2x.feedTo {s:Fd} (h:q2x s) (n:Nat) (x:Int):∀j,q2x (feedTo n x s j)
 |0=>h
 |j+1=>by
  rw[q2i]
  have ih:=q2x.feedTo h n x j
  split
  ·intro i hi
   simp only[feed1]at hi⊢
   unfold z0l
   rw[if_neg (by omega)]
   exact ih i (by omega)
  ·exact ih
theorem q2x.all:∀(cl:List (Int×Int)) (s:Fd),q2x s→q2x (q0n s cl)
 |[],_,h=>h
 |q::cl,_,h=>q2x.all cl _ (h.feedTo q.1.toNat q.2 64)
theorem x9g (rows:Int→List Int) (m:Nat):∀t,(∀j:Nat,j<t→j<m→(rows j).length≤1)→(∀j:Nat,m≤j→rows j=[])→j0f rows t≤m
 |0,_,_=>by simp[j0f]
 |t+1,h1,h2=>by
  rw[z2m]
  by_cases h:t<m
  ·have a:=h1 t (by omega) h
   have b:j0f rows t≤t:=by
    have:∀u,u≤t→j0f rows u≤u:=fun u=>by
     induction u with
     |zero=>intro _;simp[j0f]
     |succ u ih=>intro hu;rw[z2m];have:=h1 u (by omega) (by omega);have:=ih (by omega);omega
    exact this t (Qb8 _)
   omega
  ·rw[h2 t (by omega)]
   have:=x9g rows m t (fun j hj=>h1 j (by omega)) h2
   simpa using this
theorem z9w {coef l:List Int} {next:Int} {bits:List Int} {cs:List (List Int)} {after:Int} (h:z1o coef l next=.ok bits cs after):
 coef.length=l.length∧(∀c∈coef,0≤c∧c≤1099511627776)∧next≤after∧after≤65537∧1≤next∧(after-next)%2=0∧7*(after-next)≤2*(cs.length:Int)∧(cs.length:Int)≤7*(after-next)∧(∀b∈bits,b=0∨q0x after b)∧(∀c∈cs,∀x∈c,q0x after x)∧
  ((coef.map fun c=>j0h c.toNat 64).sum≤bits.length∨0<after-next):=by
 unfold z1o at h
 split at h
 ·cases h
 ·split at h
  ·cases h
  ·split at h
   ·cases h
   ·rename_i h1 h2 h3
    generalize hr:q5y q8h 0 {rows:=(q0n fd0 (coef.zip l)).1,cs:=[],nx:=next,top:=(q0n fd0 (coef.zip l)).2} []=o at h
    cases o with
    |none=>cases h
    |some r=>
     simp only at h
     injection h with e1 e2 e3
     subst e1 e2 e3
     have hall:∀q∈coef.zip l,z8n next q=true:=by simpa using h2
     have hlen:coef.length=l.length:=by omega
     have hcoef:∀c∈coef,0≤c∧c≤1099511627776:=fun c hc=>by
      obtain⟨i,hi,rfl⟩:=List.mem_iff_getElem.1 hc
      have:=hall ((coef.zip l)[i]'(by rw[Qf9];omega)) (Qc7 _)
      rw[Qj5]at this
      simp[z8n]at this
      omega
     have hlit:∀q∈coef.zip l,q0x next q.2:=fun q hq=>by
      have:=hall q hq
      simp[z8n]at this
      exact⟨this.1.1.2,this.2,this.1.2⟩
     have hrow:∀(cl:List (Int×Int)) (s:Fd),(∀j,∀x∈s.1 j,q0x next x)→(∀q∈cl,q0x next q.2)→∀j,∀x∈(q0n s cl).1 j,q0x next x:=by
      intro cl
      induction cl with
      |nil=>intro s hs _;exact hs
      |cons q cl ih=>
       intro s hs hq
       have e:q0n s (q::cl)=q0n (feedTo q.1.toNat q.2 s 64) cl:=rfl
       rw[e]
       refine ih _ ?_ (fun p hp=>hq p (by simp[hp]))
       have:∀t,∀j,∀x∈(feedTo q.1.toNat q.2 s t).1 j,q0x next x:=fun t=>by
        induction t with
        |zero=>exact hs
        |succ t ih2=>
         rw[q2i]
         split
         ·intro j x hx
          simp only[feed1]at hx
          rcases z5w hx with hx|rfl
          ·exact ih2 j x hx
          ·exact hq q (by simp)
         ·exact ih2
       exact this 64
     have hs0:k9e next {rows:=(q0n fd0 (coef.zip l)).1,cs:=[],nx:=next,top:=(q0n fd0 (coef.zip l)).2}:=
      ⟨by simp only;omega,by simp,by simp,hrow _ fd0 (fun j x hx=>by simp[fd0]at hx) hlit,fun c hc=>by simp at hc,by simp,by simp⟩
     obtain⟨b1,b2,b3⟩:=z8e next q8h 0 _ [] r hs0 (fun b hb=>by simp at hb) hr
     have hhi:∀(f:Nat) (k:Int) (s:Ps) (o:List Int),s.nx≤65537→q5y f k s o=some r→r.2.2≤65537:=by
      intro f
      induction f with
      |zero=>intro k s o _ h;simp[q5y]at h
      |succ f ih=>
       intro k s o hs h
       rw[q5y]at h
       split at h
       ·split at h
        ·split at h
         ·cases h
         ·exact ih k _ o (by simp only[q1f];omega) h
        ·exact ih _ _ _ hs h
       ·injection h with h;subst h;exact hs
     refine⟨hlen,hcoef,b1,hhi _ _ _ _ (by simp only;omega) hr,by omega,b3.ev,b3.lo,b3.hi,b2,b3.cls,?_⟩
     by_cases hz:r.2.2=next
     ·left
      obtain⟨c1,c2⟩:=j8z q8h 0 _ [] r hr hz
      have ok64:=(q2f.all (coef.zip l) fd0 0 q2f.zero).2
      have hem:=q2x.all (coef.zip l) fd0 (fun _ _=>rfl)
      have ht:=z4m (coef.zip l) fd0
      have h0:j0f fd0.1 64=0:=by decide
      have hm:((coef.zip l).map fun q=>j0h q.1.toNat 64)=coef.map fun c=>j0h c.toNat 64:=by
       have:=congrArg (List.map fun c:Int=>j0h c.toNat 64) (List.map_fst_zip (l₁:=coef) (l₂:=l) (by omega))
       rw[←this,Ql8]
       rfl
      rw[h0,hm]at ht
      generalize hT:(q0n fd0 (coef.zip l)).2=T at*
      simp only[Qb5]at c1
      have:=x9g (q0n fd0 (coef.zip l)).1 T.toNat 64 (fun j _ hj'=>c2 j (by omega) (by simp only;omega)) (fun j hj=>hem j (by omega))
      omega
     ·right
      have:next≤r.2.2:=b1
      omega
end Go.Proofs.YteikjpbbhopkaaaGreatDoor
namespace Go.Proofs.YteikjpbbhopkaaaGreatDoor
def q1u (a:List Bool) (x:Int):Bool:=decide (x≠0∧-65536≤x∧x≤65536)&&((decide (x.natAbs<a.length)&&a.getD x.natAbs false)==decide (0<x))
theorem q6v (a:List Bool):q1u a 0=false:=by simp[q1u]
def j3e (bv:Nat→Bool):Nat→Nat
 |0=>0
 |m+1=>j3e bv m+if bv m then 2^m else 0
theorem x6v (bv:Nat→Bool):∀m,j3e bv m<2^m
 |0=>by simp[j3e]
 |m+1=>by
  have:=x6v bv m
  rw[j3e,Qo1]
  split<;>omega
theorem z5x (bv:Nat→Bool):∀m i,(j3e bv m).testBit i=(decide (i<m)&&bv i)
 |0,i=>by simp[j3e]
 |m+1,i=>by
  have hlt:=x6v bv m
  have e:j3e bv (m+1)=2^m*(bv m).toNat+j3e bv m:=by
   rw[j3e];cases bv m<;>simp<;>omega
  rw[e,Qp4 _ hlt,z5x bv m i]
  by_cases h:i<m
  ·have h2:i<m+1:=by omega
   simp[h,h2]
  ·rw[if_neg h]
   by_cases h2:i=m
   ·subst h2
    cases bv i<;>simp
   ·have h3:¬i<m+1:=by omega
    have h4:i-m≠0:=by omega
    have:((bv m).toNat).testBit (i-m)=false:=by
     apply Qn4
     have h5:2^1≤2^(i-m):=Qi3 (by decide) (by omega)
     cases bv m<;>simp<;>omega
    simp[h3,this]
def Dom (N K:Nat):Prop:=∀t,K.testBit t=true→N.testBit t=true∨∃i,t<i∧N.testBit i=true∧K.testBit i=false
theorem j0t:∀(n N K:Nat),N≤n→(∀i,N.testBit i=true→K.testBit i=true)→N≤K
 |0,N,K,hn,_=>by omega
 |n+1,N,K,hn,h=>by
  by_cases h0:N=0
  ·omega
  ·have:=j0t n (N/2) (K/2) (by omega) (fun i hi=>by rw[←Qe4]at hi⊢;exact h (i+1) hi)
   have h1:N%2=1→K%2=1:=fun e=>by
    have:=h 0 (by rw[Qm7];simp[e])
    rw[Qm7]at this
    simpa using this
   omega
theorem k2d:∀(n N K:Nat),K+N≤n→(Dom N K↔K≤N)
 |0,N,K,hn=>by
  have h1:N=0:=by omega
  have h2:K=0:=by omega
  subst h1 h2
  exact⟨fun _=>Qb8 _,fun _ t ht=>by simp at ht⟩
 |n+1,N,K,hn=>by
  by_cases hz:K+N=0
  ·have h1:N=0:=by omega
   have h2:K=0:=by omega
   subst h1 h2
   exact⟨fun _=>Qb8 _,fun _ t ht=>by simp at ht⟩
  ·have ih:=k2d n (N/2) (K/2) (by omega)
   have e0:∀M:Nat,M.testBit 0=decide (M%2=1):=fun M=>Qm7 M
   constructor
   ·intro h
    have h':Dom (N/2) (K/2):=fun t ht=>by
     rw[←Qe4]at ht⊢
     rcases h (t+1) ht with h1|⟨i,h1,h2,h3⟩
     ·exact .inl h1
     ·obtain⟨j,rfl⟩:∃j,i=j+1:=⟨i-1,by omega⟩
      exact .inr ⟨j,by omega,by rw[←Qe4];exact h2,by rw[←Qe4];exact h3⟩
    have hle:=ih.1 h'
    by_cases he:K/2=N/2
    ·by_cases hk:K%2=1
     ·rcases h 0 (by rw[e0];simp[hk])with h1|⟨i,h1,h2,h3⟩
      ·rw[e0]at h1;simp at h1;omega
      ·obtain⟨j,rfl⟩:∃j,i=j+1:=⟨i-1,by omega⟩
       rw[Qe4]at h2 h3
       rw[he,h2]at h3
       cases h3
     ·omega
    ·omega
   ·intro h
    have h':=ih.2 (by omega)
    intro t ht
    cases t with
    |zero=>
     rw[e0]at ht
     simp at ht
     by_cases hn1:N%2=1
     ·left;rw[e0];simp[hn1]
     ·right
      have hlt:K/2<N/2:=by omega
      rcases Classical.em (∃i,(N/2).testBit i=true∧(K/2).testBit i=false)with⟨i,h2,h3⟩|hno
      ·exact⟨i+1,by omega,by rw[Qe4];exact h2,by rw[Qe4];exact h3⟩
      ·exfalso
       have:=j0t (N/2) (N/2) (K/2) (Qb8 _) (fun i hi=>by
        cases hk:(K/2).testBit i with
        |true=>rfl
        |false=>exact absurd ⟨i,hi,hk⟩ hno)
       omega
    |succ t=>
     rw[Qe4]at ht⊢
     rcases h' t ht with h1|⟨i,h1,h2,h3⟩
     ·exact .inl h1
     ·exact .inr ⟨i+1,by omega,by rw[Qe4];exact h2,by rw[Qe4];exact h3⟩
def x9c (bits:List Int) (a:List Bool) (i:Nat):Bool:=q1u a (bits.getD i 0)
theorem y9u (bits:List Int) (a:List Bool) (K t:Nat):(j1f bits K t bits.length).any (q1u a)=true↔∃i,i<bits.length∧x9c bits a i=true∧(i=t∨(t<i∧K.testBit i=false)):=by
 unfold j1f
 rw[Qf7]
 constructor
 ·rintro⟨x,hx,hl⟩
  obtain⟨i,hi,rfl⟩:=List.mem_map.1 hx
  obtain⟨h1,h2⟩:=List.mem_filter.1 hi
  rw[List.mem_range]at h1
  refine⟨i,h1,hl,?_⟩
  simp[j8w]at h2
  exact h2.2
 ·rintro⟨i,hi,hb,hc⟩
  refine⟨_,List.mem_map.2 ⟨i,List.mem_filter.2 ⟨List.mem_range.2 hi,?_⟩,rfl⟩,hb⟩
  have hne:bits.getD i 0≠0:=fun e=>by unfold x9c at hb;rw[e,q6v]at hb;cases hb
  unfold j8w
  rcases hc with h|⟨h1,h2⟩
  ·subst h;rw[bne_iff_ne.2 hne];simp
  ·rw[bne_iff_ne.2 hne];simp[h1,h2]
theorem z2p (bits:List Int) (a:List Bool) (K:Nat) (hK:K≤4503599627370496):
 (q1x bits K 64).all (fun c=>c.any (q1u a))=decide (K≤j3e (x9c bits a) bits.length):=by
 rw[Qh3,decide_eq_true_iff,←k2d (K+j3e (x9c bits a) bits.length) _ _ (Qb8 _),Qh1]
 unfold q1x Dom
 constructor
 ·intro h t ht
  have ht64:t<64:=by
   rcases Qi7 t 64 with h|h
   ·exact h
   ·rw[Qn4 (Qc2 (by omega:K<2^64) (Qi3 (by decide) h))]at ht
    cases ht
  obtain⟨i,h1,h2,h3⟩:=(y9u bits a K t).1 (h _ (List.mem_map.2 ⟨t,List.mem_filter.2 ⟨List.mem_range.2 ht64,ht⟩,rfl⟩))
  have hb:(j3e (x9c bits a) bits.length).testBit i=true:=by rw[z5x];simp[h1,h2]
  rcases h3 with rfl|⟨h3,h4⟩
  ·exact .inl hb
  ·exact .inr ⟨i,h3,hb,h4⟩
 ·intro h c hc
  obtain⟨t,ht,rfl⟩:=List.mem_map.1 hc
  obtain⟨_,htb⟩:=List.mem_filter.1 ht
  refine(y9u bits a K t).2 ?_
  rcases h t htb with h1|⟨i,h1,h2,h3⟩
  ·rw[z5x]at h1
   simp at h1
   exact⟨t,h1.1,h1.2,.inl rfl⟩
  ·rw[z5x]at h2
   simp at h2
   exact⟨i,h2.1,h2.2,.inr ⟨h1,h3⟩⟩
end Go.Proofs.YteikjpbbhopkaaaGreatDoor
namespace Go.Proofs.YteikjpbbhopkaaaGreatDoor
def hasB (l:List Int) (n:Int):Bool:=l.any (· ==n)
def okO (a:List Bool) (known x:Int):Bool:=decide (1≤x.natAbs)&&(decide ((x.natAbs:Int)<known)&&(decide (x.natAbs<a.length)&&(a.getD x.natAbs false !=decide (0<x))))
def q6d (l:List Int) (lit:Int) (a:List Bool) (known:Int):Bool:=l.all fun x=>x==lit||okO a known x
def q0w (cs:List (List Int)) (lit v:Int) (a:List Bool):Bool:=cs.any fun c=>hasB c lit&&q6d c lit a v
def z0s (cs:List (List Int)):List Bool→Int→Nat→List Bool×Bool
 |out,_,0=>(out,true)
 |out,v,n+1=>if q0w cs v v out=q0w cs (-v) v out then(out,false)else z0s cs (out++[q0w cs v v out]) (v+1) n
def sumTo (coef l:List Int) (a:List Bool):Nat→Int
 |0=>0
 |k+1=>sumTo coef l a k+if q1u a (l.getD k 0)then coef.getD k 0 else 0
end Go.Proofs.YteikjpbbhopkaaaGreatDoor
namespace Go.Proofs.YteikjpbbhopkaaaGreatDoor
theorem q7k {F:List Bool} {x:Int} (h:q0x (F.length:Int) x) (hF:(F.length:Int)≤65537):q1u F x=(F.getD x.natAbs false==decide (0<x)):=by
 obtain⟨h0,h1,h2⟩:=h
 unfold q1u
 rw[decide_eq_true (show x≠0∧-65536≤x∧x≤65536 by omega),decide_eq_true (show x.natAbs<F.length by omega),Qk6,Qk6]
theorem q2h {F:List Bool} {x:Int} (h:q0x (F.length:Int) x) (hF:(F.length:Int)≤65537):q1u F (-x)= !q1u F x:=by
 rw[q7k h hF,q7k h.neg hF,Qk0]
 have h0:=h.1
 have e:decide (0< -x)= !decide (0<x):=by
  rw[Qh3];simp;omega
 rw[e]
 cases F.getD x.natAbs false<;>cases decide (0<x)<;>rfl
theorem j4i {F:List Bool} (G:List Bool) {x:Int} (h:q0x (F.length:Int) x) (hF:((F++G).length:Int)≤65537):q1u (F++G) x=q1u F x:=by
 rw[Qa3]at hF
 rw[q7k h (by omega),q7k (h.mono (by rw[Qa3];omega)) (by rw[Qa3];exact hF)]
 have:=h.2
 rw[Qa1,Qa1,Qe3 (by omega)]
theorem u8u {F:List Bool} {x:Int} (h:q0x (F.length:Int) x) (hF:(F.length:Int)≤65537):okO F (F.length:Int) x= !q1u F x:=by
 obtain⟨h0,h1,h2⟩:=h
 rw[q7k ⟨h0,h1,h2⟩ hF]
 unfold okO
 rw[decide_eq_true (show 1≤x.natAbs by omega),decide_eq_true (show(x.natAbs:Int)<(F.length:Int) by omega),decide_eq_true (show x.natAbs<F.length by omega)]
 cases F.getD x.natAbs false<;>cases decide (0<x)<;>rfl
section
variable {out:List Bool} {lit v:Int}
theorem q3u (xs:List Int) (l':Int) (hv:(out.length:Int)=v) (hb:v≤65537) (hlit:lit=v∨lit= -v) (hx:∀x∈xs,q0x v x):(hasB (xs++[l']) lit&&q6d (xs++[l']) lit out v)=(l'==lit&&xs.all fun x=> !q1u out x):=by
 have hne:∀x∈xs,(x==lit)=false:=fun x hxm=>by
  have:=hx x hxm
  obtain⟨a,b,c⟩:=this
  simp only[beq_eq_false_iff_ne]
  omega
 have ho:xs.all (fun x=>x==lit||okO out v x)=xs.all fun x=> !q1u out x:=by
  rw[Qh3,Qh1,Qh1]
  refine forall_congr' fun x=>forall_congr' fun hxm=>?_
  rw[hne x hxm,Qm2]
  subst hv
  rw[u8u (hx x hxm) hb]
 have hh:xs.any (· ==lit)=false:=by
  rw[Qi8];intro x hxm;rw[hne x hxm];simp
 unfold hasB q6d
 rw[Qn3,Qj0,hh,ho]
 by_cases e:(l'==lit)=true
 ·simp[e]
 ·have e:(l'==lit)=false:=by simpa using e
  simp[e]
theorem x5g {cs:List (List Int)} (hlit:lit=v∨lit= -v) (h:∀c∈cs,∀x∈c,q0x v x):q0w cs lit v out=false:=by
 unfold q0w
 rw[Qi8]
 intro c hc
 have:hasB c lit=false:=by
  unfold hasB
  rw[Qi8]
  intro x hx
  obtain⟨a,b,d⟩:=h c hc x hx
  simp;omega
 rw[this];simp
theorem y7h {cs:List (List Int)} (hlit:lit=v∨lit= -v) (hv0:0≤v) (h:∀c∈cs,∃x∈c,v<(x.natAbs:Int)):q0w cs lit v out=false:=by
 unfold q0w
 rw[Qi8]
 intro c hc
 obtain⟨x,hx,hlt⟩:=h c hc
 have:q6d c lit out v=false:=by
  unfold q6d
  rw[List.all_eq_false]
  refine⟨x,hx,?_⟩
  have h1:(x==lit)=false:=by simp only[beq_eq_false_iff_ne];omega
  have h2:okO out v x=false:=by
   unfold okO
   rw[decide_eq_false (show¬(x.natAbs:Int)<v by omega)]
   simp
  rw[h1,h2];simp
 rw[this];simp
theorem j2d (a b:List (List Int)):q0w (a++b) lit v out=(q0w a lit v out||q0w b lit v out):=by
 unfold q0w;rw[Qn3]
end
def cntT (F:List Bool):List Int→Nat
 |[]=>0
 |x::l=>(q1u F x).toNat+cntT F l
theorem z2h (F:List Bool):∀a b,cntT F (a++b)=cntT F a+cntT F b
 |[],b=>by simp[cntT]
 |x::a,b=>by simp only[Qc9,cntT,z2h F a b];omega
theorem z3j {F G:List Bool}:∀{l:List Int},(∀x∈l,q1u F x=q1u G x)→cntT F l=cntT G l
 |[],_=>rfl
 |x::l,h=>by simp only[cntT];rw[h x (by simp),z3j (l:=l) (fun y hy=>h y (by simp[hy]))]
def sV (F:List Bool) (l:List Int):Bool:=cntT F l%2==1
def cV (F:List Bool) (l:List Int):Bool:=Nat.ble 2 (cntT F l)
theorem u2e (a b n:Int) (out:List Bool) (hv:(out.length:Int)=n) (hn:1≤n) (hb:n+2≤65537) (ha:q0x n a) (hbb:q0x n b):
 q0w (q7y [a,b] n (n+1)) n n out=sV out [a,b]∧q0w (q7y [a,b] n (n+1)) (-n) n out= !sV out [a,b]:=by
 have na:=q2h (F:=out) (by rw[hv];exact ha) (by omega)
 have nb:=q2h (F:=out) (by rw[hv];exact hbb) (by omega)
 have f3:∀lit (_:lit=n∨lit= -n) x y l',q0x n x→q0x n y→(hasB [x,y,l'] lit&&q6d [x,y,l'] lit out n)=(l'==lit&&(!q1u out x&&(!q1u out y&&true))):=fun lit hl x y l' hx hy=>
  q3u [x,y] l' hv (by omega) hl (by simp;exact⟨hx,hy⟩)
 have f2:∀lit (_:lit=n∨lit= -n) x l',q0x n x→(hasB [x,l'] lit&&q6d [x,l'] lit out n)=(l'==lit&&(!q1u out x&&true)):=fun lit hl x l' hx=>
  q3u [x] l' hv (by omega) hl (by simpa using hx)
 have e1:((-n:Int)==n)=false:=by simp only[beq_eq_false_iff_ne];omega
 have e2:((n:Int)== -n)=false:=by simp only[beq_eq_false_iff_ne];omega
 have e3:((n+1:Int)==n)=false:=by simp only[beq_eq_false_iff_ne];omega
 have e4:((n+1:Int)== -n)=false:=by simp only[beq_eq_false_iff_ne];omega
 have e5:((-(n+1):Int)==n)=false:=by simp only[beq_eq_false_iff_ne];omega
 have e6:((-(n+1):Int)== -n)=false:=by simp only[beq_eq_false_iff_ne];omega
 have e7:(n==n)=true:=by simp
 have e8:(-n== -n)=true:=by simp
 rw[z2j]
 unfold q0w sV
 simp only[Qh0,Qn8,cntT]
 constructor
 ·rw[f3 n (.inl rfl) a b (-n) ha hbb,f3 n (.inl rfl) (-a) b n ha.neg hbb,f3 n (.inl rfl) a (-b) n ha hbb.neg,f3 n (.inl rfl) (-a) (-b) (-n) ha.neg hbb.neg,f3 n (.inl rfl) (-a) (-b) (n+1) ha.neg hbb.neg,f2 n (.inl rfl) a (-(n+1)) ha,f2 n (.inl rfl) b (-(n+1)) hbb,e1,e3,e5,e7,na,nb]
  cases q1u out a<;>cases q1u out b<;>rfl
 ·rw[f3 (-n) (.inr rfl) a b (-n) ha hbb,f3 (-n) (.inr rfl) (-a) b n ha.neg hbb,f3 (-n) (.inr rfl) a (-b) n ha hbb.neg,f3 (-n) (.inr rfl) (-a) (-b) (-n) ha.neg hbb.neg,f3 (-n) (.inr rfl) (-a) (-b) (n+1) ha.neg hbb.neg,f2 (-n) (.inr rfl) a (-(n+1)) ha,f2 (-n) (.inr rfl) b (-(n+1)) hbb,e2,e4,e6,e8,na,nb]
  cases q1u out a<;>cases q1u out b<;>rfl
theorem k6f (a b n:Int) (out:List Bool) (hv:(out.length:Int)=n+1) (hn:1≤n) (hb:n+2≤65537) (ha:q0x n a) (hbb:q0x n b):
 q0w (q7y [a,b] n (n+1)) (n+1) (n+1) out=cV out [a,b]∧q0w (q7y [a,b] n (n+1)) (-(n+1)) (n+1) out= !cV out [a,b]:=by
 have ha:q0x (n+1) a:=ha.mono (by omega)
 have hbb:q0x (n+1) b:=hbb.mono (by omega)
 have na:=q2h (F:=out) (by rw[hv];exact ha) (by omega)
 have nb:=q2h (F:=out) (by rw[hv];exact hbb) (by omega)
 have f3:∀lit (_:lit=n+1∨lit= -(n+1)) x y l',q0x (n+1) x→q0x (n+1) y→(hasB [x,y,l'] lit&&q6d [x,y,l'] lit out (n+1))=(l'==lit&&(!q1u out x&&(!q1u out y&&true))):=fun lit hl x y l' hx hy=>
  q3u [x,y] l' hv (by omega) hl (by simp;exact⟨hx,hy⟩)
 have f2:∀lit (_:lit=n+1∨lit= -(n+1)) x l',q0x (n+1) x→(hasB [x,l'] lit&&q6d [x,l'] lit out (n+1))=(l'==lit&&(!q1u out x&&true)):=fun lit hl x l' hx=>
  q3u [x] l' hv (by omega) hl (by simpa using hx)
 have e1:((-n:Int)==n+1)=false:=by simp only[beq_eq_false_iff_ne];omega
 have e2:((n:Int)== -(n+1))=false:=by simp only[beq_eq_false_iff_ne];omega
 have e3:((n+1:Int)==n+1)=true:=by simp
 have e4:((n+1:Int)== -(n+1))=false:=by simp only[beq_eq_false_iff_ne];omega
 have e5:((-(n+1):Int)==n+1)=false:=by simp only[beq_eq_false_iff_ne];omega
 have e6:((-(n+1):Int)== -(n+1))=true:=by simp
 have e7:(n==n+1)=false:=by simp only[beq_eq_false_iff_ne];omega
 have e8:(-n== -(n+1))=false:=by simp only[beq_eq_false_iff_ne];omega
 rw[z2j]
 unfold q0w cV
 simp only[Qh0,Qn8,cntT]
 constructor
 ·rw[f3 (n+1) (.inl rfl) a b (-n) ha hbb,f3 (n+1) (.inl rfl) (-a) b n ha.neg hbb,f3 (n+1) (.inl rfl) a (-b) n ha hbb.neg,f3 (n+1) (.inl rfl) (-a) (-b) (-n) ha.neg hbb.neg,f3 (n+1) (.inl rfl) (-a) (-b) (n+1) ha.neg hbb.neg,f2 (n+1) (.inl rfl) a (-(n+1)) ha,f2 (n+1) (.inl rfl) b (-(n+1)) hbb,e1,e3,e5,e7,na,nb]
  cases q1u out a<;>cases q1u out b<;>rfl
 ·rw[f3 (-(n+1)) (.inr rfl) a b (-n) ha hbb,f3 (-(n+1)) (.inr rfl) (-a) b n ha.neg hbb,f3 (-(n+1)) (.inr rfl) a (-b) n ha hbb.neg,f3 (-(n+1)) (.inr rfl) (-a) (-b) (-n) ha.neg hbb.neg,f3 (-(n+1)) (.inr rfl) (-a) (-b) (n+1) ha.neg hbb.neg,f2 (-(n+1)) (.inr rfl) a (-(n+1)) ha,f2 (-(n+1)) (.inr rfl) b (-(n+1)) hbb,e2,e4,e6,e8,na,nb]
  cases q1u out a<;>cases q1u out b<;>rfl
theorem k0z (a b d n:Int) (out:List Bool) (hv:(out.length:Int)=n) (hn:1≤n) (hb:n+2≤65537) (ha:q0x n a) (hbb:q0x n b) (hd:q0x n d):
 q0w (q7y [a,b,d] n (n+1)) n n out=sV out [a,b,d]∧q0w (q7y [a,b,d] n (n+1)) (-n) n out= !sV out [a,b,d]:=by
 have na:=q2h (F:=out) (by rw[hv];exact ha) (by omega)
 have nb:=q2h (F:=out) (by rw[hv];exact hbb) (by omega)
 have nd:=q2h (F:=out) (by rw[hv];exact hd) (by omega)
 have f4:∀lit (_:lit=n∨lit= -n) x y z l',q0x n x→q0x n y→q0x n z→(hasB [x,y,z,l'] lit&&q6d [x,y,z,l'] lit out n)=(l'==lit&&(!q1u out x&&(!q1u out y&&(!q1u out z&&true)))):=fun lit hl x y z l' hx hy hz=>
  q3u [x,y,z] l' hv (by omega) hl (by simp;exact⟨hx,hy,hz⟩)
 have f3:∀lit (_:lit=n∨lit= -n) x y l',q0x n x→q0x n y→(hasB [x,y,l'] lit&&q6d [x,y,l'] lit out n)=(l'==lit&&(!q1u out x&&(!q1u out y&&true))):=fun lit hl x y l' hx hy=>
  q3u [x,y] l' hv (by omega) hl (by simp;exact⟨hx,hy⟩)
 have ep0:((-n:Int)==n)=false:=by simp only[beq_eq_false_iff_ne];omega
 have ep1:((n:Int)==n)=true:=by simp
 have ep2:((n+1:Int)==n)=false:=by simp only[beq_eq_false_iff_ne];omega
 have ep3:((-(n+1):Int)==n)=false:=by simp only[beq_eq_false_iff_ne];omega
 have em0:((-n:Int)== -n)=true:=by simp
 have em1:((n:Int)== -n)=false:=by simp only[beq_eq_false_iff_ne];omega
 have em2:((n+1:Int)== -n)=false:=by simp only[beq_eq_false_iff_ne];omega
 have em3:((-(n+1):Int)== -n)=false:=by simp only[beq_eq_false_iff_ne];omega
 rw[q6o]
 unfold q0w sV
 simp only[Qh0,Qn8,cntT]
 constructor
 ·rw[f4 n (.inl rfl) a b d (-n) ha hbb hd,f4 n (.inl rfl) (-a) b d n ha.neg hbb hd,f4 n (.inl rfl) a (-b) d n ha hbb.neg hd,f4 n (.inl rfl) (-a) (-b) d (-n) ha.neg hbb.neg hd,f4 n (.inl rfl) a b (-d) n ha hbb hd.neg,f4 n (.inl rfl) (-a) b (-d) (-n) ha.neg hbb hd.neg,f4 n (.inl rfl) a (-b) (-d) (-n) ha hbb.neg hd.neg,f4 n (.inl rfl) (-a) (-b) (-d) n ha.neg hbb.neg hd.neg,f3 n (.inl rfl) (-a) (-b) (n+1) ha.neg hbb.neg,f3 n (.inl rfl) (-a) (-d) (n+1) ha.neg hd.neg,f3 n (.inl rfl) (-b) (-d) (n+1) hbb.neg hd.neg,f3 n (.inl rfl) a b (-(n+1)) ha hbb,f3 n (.inl rfl) a d (-(n+1)) ha hd,f3 n (.inl rfl) b d (-(n+1)) hbb hd,ep0,ep1,ep2,ep3,na,nb,nd]
  cases q1u out a<;>cases q1u out b<;>cases q1u out d<;>rfl
 ·rw[f4 (-n) (.inr rfl) a b d (-n) ha hbb hd,f4 (-n) (.inr rfl) (-a) b d n ha.neg hbb hd,f4 (-n) (.inr rfl) a (-b) d n ha hbb.neg hd,f4 (-n) (.inr rfl) (-a) (-b) d (-n) ha.neg hbb.neg hd,f4 (-n) (.inr rfl) a b (-d) n ha hbb hd.neg,f4 (-n) (.inr rfl) (-a) b (-d) (-n) ha.neg hbb hd.neg,f4 (-n) (.inr rfl) a (-b) (-d) (-n) ha hbb.neg hd.neg,f4 (-n) (.inr rfl) (-a) (-b) (-d) n ha.neg hbb.neg hd.neg,f3 (-n) (.inr rfl) (-a) (-b) (n+1) ha.neg hbb.neg,f3 (-n) (.inr rfl) (-a) (-d) (n+1) ha.neg hd.neg,f3 (-n) (.inr rfl) (-b) (-d) (n+1) hbb.neg hd.neg,f3 (-n) (.inr rfl) a b (-(n+1)) ha hbb,f3 (-n) (.inr rfl) a d (-(n+1)) ha hd,f3 (-n) (.inr rfl) b d (-(n+1)) hbb hd,em0,em1,em2,em3,na,nb,nd]
  cases q1u out a<;>cases q1u out b<;>cases q1u out d<;>rfl
theorem x3s (a b d n:Int) (out:List Bool) (hv:(out.length:Int)=n+1) (hn:1≤n) (hb:n+2≤65537) (ha:q0x n a) (hbb:q0x n b) (hd:q0x n d):
 q0w (q7y [a,b,d] n (n+1)) (n+1) (n+1) out=cV out [a,b,d]∧q0w (q7y [a,b,d] n (n+1)) (-(n+1)) (n+1) out= !cV out [a,b,d]:=by
 have ha:q0x (n+1) a:=ha.mono (by omega)
 have hbb:q0x (n+1) b:=hbb.mono (by omega)
 have hd:q0x (n+1) d:=hd.mono (by omega)
 have na:=q2h (F:=out) (by rw[hv];exact ha) (by omega)
 have nb:=q2h (F:=out) (by rw[hv];exact hbb) (by omega)
 have nd:=q2h (F:=out) (by rw[hv];exact hd) (by omega)
 have f4:∀lit (_:lit=n+1∨lit= -(n+1)) x y z l',q0x (n+1) x→q0x (n+1) y→q0x (n+1) z→(hasB [x,y,z,l'] lit&&q6d [x,y,z,l'] lit out (n+1))=(l'==lit&&(!q1u out x&&(!q1u out y&&(!q1u out z&&true)))):=fun lit hl x y z l' hx hy hz=>
  q3u [x,y,z] l' hv (by omega) hl (by simp;exact⟨hx,hy,hz⟩)
 have f3:∀lit (_:lit=n+1∨lit= -(n+1)) x y l',q0x (n+1) x→q0x (n+1) y→(hasB [x,y,l'] lit&&q6d [x,y,l'] lit out (n+1))=(l'==lit&&(!q1u out x&&(!q1u out y&&true))):=fun lit hl x y l' hx hy=>
  q3u [x,y] l' hv (by omega) hl (by simp;exact⟨hx,hy⟩)
 have ep0:((-n:Int)==n+1)=false:=by simp only[beq_eq_false_iff_ne];omega
 have ep1:((n:Int)==n+1)=false:=by simp only[beq_eq_false_iff_ne];omega
 have ep2:((n+1:Int)==n+1)=true:=by simp
 have ep3:((-(n+1):Int)==n+1)=false:=by simp only[beq_eq_false_iff_ne];omega
 have em0:((-n:Int)== -(n+1))=false:=by simp only[beq_eq_false_iff_ne];omega
 have em1:((n:Int)== -(n+1))=false:=by simp only[beq_eq_false_iff_ne];omega
 have em2:((n+1:Int)== -(n+1))=false:=by simp only[beq_eq_false_iff_ne];omega
 have em3:((-(n+1):Int)== -(n+1))=true:=by simp
 rw[q6o]
 unfold q0w cV
 simp only[Qh0,Qn8,cntT]
 constructor
 ·rw[f4 (n+1) (.inl rfl) a b d (-n) ha hbb hd,f4 (n+1) (.inl rfl) (-a) b d n ha.neg hbb hd,f4 (n+1) (.inl rfl) a (-b) d n ha hbb.neg hd,f4 (n+1) (.inl rfl) (-a) (-b) d (-n) ha.neg hbb.neg hd,f4 (n+1) (.inl rfl) a b (-d) n ha hbb hd.neg,f4 (n+1) (.inl rfl) (-a) b (-d) (-n) ha.neg hbb hd.neg,f4 (n+1) (.inl rfl) a (-b) (-d) (-n) ha hbb.neg hd.neg,f4 (n+1) (.inl rfl) (-a) (-b) (-d) n ha.neg hbb.neg hd.neg,f3 (n+1) (.inl rfl) (-a) (-b) (n+1) ha.neg hbb.neg,f3 (n+1) (.inl rfl) (-a) (-d) (n+1) ha.neg hd.neg,f3 (n+1) (.inl rfl) (-b) (-d) (n+1) hbb.neg hd.neg,f3 (n+1) (.inl rfl) a b (-(n+1)) ha hbb,f3 (n+1) (.inl rfl) a d (-(n+1)) ha hd,f3 (n+1) (.inl rfl) b d (-(n+1)) hbb hd,ep0,ep1,ep2,ep3,na,nb,nd]
  cases q1u out a<;>cases q1u out b<;>cases q1u out d<;>rfl
 ·rw[f4 (-(n+1)) (.inr rfl) a b d (-n) ha hbb hd,f4 (-(n+1)) (.inr rfl) (-a) b d n ha.neg hbb hd,f4 (-(n+1)) (.inr rfl) a (-b) d n ha hbb.neg hd,f4 (-(n+1)) (.inr rfl) (-a) (-b) d (-n) ha.neg hbb.neg hd,f4 (-(n+1)) (.inr rfl) a b (-d) n ha hbb hd.neg,f4 (-(n+1)) (.inr rfl) (-a) b (-d) (-n) ha.neg hbb hd.neg,f4 (-(n+1)) (.inr rfl) a (-b) (-d) (-n) ha hbb.neg hd.neg,f4 (-(n+1)) (.inr rfl) (-a) (-b) (-d) n ha.neg hbb.neg hd.neg,f3 (-(n+1)) (.inr rfl) (-a) (-b) (n+1) ha.neg hbb.neg,f3 (-(n+1)) (.inr rfl) (-a) (-d) (n+1) ha.neg hd.neg,f3 (-(n+1)) (.inr rfl) (-b) (-d) (n+1) hbb.neg hd.neg,f3 (-(n+1)) (.inr rfl) a b (-(n+1)) ha hbb,f3 (-(n+1)) (.inr rfl) a d (-(n+1)) ha hd,f3 (-(n+1)) (.inr rfl) b d (-(n+1)) hbb hd,em0,em1,em2,em3,na,nb,nd]
  cases q1u out a<;>cases q1u out b<;>cases q1u out d<;>rfl
theorem v0o (l:List Int) (n:Int) (out:List Bool) (hv:(out.length:Int)=n) (hn:1≤n) (hb:n+2≤65537) (h:1<l.length) (hl:∀x∈l,q0x n x):
 q0w (q7y (l.take 3) n (n+1)) n n out=sV out (l.take 3)∧q0w (q7y (l.take 3) n (n+1)) (-n) n out= !sV out (l.take 3):=by
 rcases q2y l h with⟨a,b,e,el⟩|⟨a,b,d,t,e,el⟩
 ·rw[e];exact u2e a b n out hv hn hb (hl a (by simp[el])) (hl b (by simp[el]))
 ·rw[e];exact k0z a b d n out hv hn hb (hl a (by simp[el])) (hl b (by simp[el])) (hl d (by simp[el]))
theorem v1f (l:List Int) (n:Int) (out:List Bool) (hv:(out.length:Int)=n+1) (hn:1≤n) (hb:n+2≤65537) (h:1<l.length) (hl:∀x∈l,q0x n x):
 q0w (q7y (l.take 3) n (n+1)) (n+1) (n+1) out=cV out (l.take 3)∧q0w (q7y (l.take 3) n (n+1)) (-(n+1)) (n+1) out= !cV out (l.take 3):=by
 rcases q2y l h with⟨a,b,e,el⟩|⟨a,b,d,t,e,el⟩
 ·rw[e];exact k6f a b n out hv hn hb (hl a (by simp[el])) (hl b (by simp[el]))
 ·rw[e];exact x3s a b d n out hv hn hb (hl a (by simp[el])) (hl b (by simp[el])) (hl d (by simp[el]))
theorem k3z (l:List Int) (n:Int) (F:List Bool) (hF:(F.length:Int)≤65537) (hn:1≤n) (hb:n+2≤F.length) (h:1<l.length) (hl:∀x∈l,q0x n x) (hs:q1u F n=sV F (l.take 3)) (hc:q1u F (n+1)=cV F (l.take 3)):
 ∀c∈q7y (l.take 3) n (n+1),c.any (q1u F)=true:=by
 have ns:=q2h (F:=F) (x:=n) ⟨by omega,by omega,by omega⟩ hF
 have nc:=q2h (F:=F) (x:=n+1) ⟨by omega,by omega,by omega⟩ hF
 rcases q2y l h with⟨a,b,e,el⟩|⟨a,b,d,t,e,el⟩
 ·have na:=q2h (F:=F) ((hl a (by simp[el])).mono (by omega)) hF
  have nb:=q2h (F:=F) ((hl b (by simp[el])).mono (by omega)) hF
  rw[e]at hs hc⊢
  rw[z2j]
  unfold sV at hs
  unfold cV at hc
  simp only[cntT]at hs hc
  simp only[Qf1,Qh7,or_false,forall_eq_or_imp,forall_eq,Qh0,Qn8]
  rw[na,nb,ns,nc,hs,hc]
  cases q1u F a<;>cases q1u F b<;>decide
 ·have na:=q2h (F:=F) ((hl a (by simp[el])).mono (by omega)) hF
  have nb:=q2h (F:=F) ((hl b (by simp[el])).mono (by omega)) hF
  have nd:=q2h (F:=F) ((hl d (by simp[el])).mono (by omega)) hF
  rw[e]at hs hc⊢
  rw[q6o]
  unfold sV at hs
  unfold cV at hc
  simp only[cntT]at hs hc
  simp only[Qf1,Qh7,or_false,forall_eq_or_imp,forall_eq,Qh0,Qn8]
  rw[na,nb,nd,ns,nc,hs,hc]
  cases q1u F a<;>cases q1u F b<;>cases q1u F d<;>decide
theorem u4k (F:List Bool) (l:List Int) (h:1<l.length):(sV F (l.take 3)).toNat+2*(cV F (l.take 3)).toNat=cntT F (l.take 3):=by
 have h3:cntT F (l.take 3)≤3:=by
  rcases q2y l h with⟨a,b,e,_⟩|⟨a,b,d,t,e,_⟩
  ·rw[e];simp only[cntT];cases q1u F a<;>cases q1u F b<;>decide
  ·rw[e];simp only[cntT];cases q1u F a<;>cases q1u F b<;>cases q1u F d<;>decide
 unfold sV cV
 generalize cntT F (l.take 3)=m at h3
 rcases m with _|_|_|_|m<;>first|rfl|omega
end Go.Proofs.YteikjpbbhopkaaaGreatDoor
namespace Go.Proofs.YteikjpbbhopkaaaGreatDoor
def q7u (F:List Bool) (rows:Int→List Int) (k:Int):Nat→Nat
 |0=>0
 |n+1=>cntT F (rows k)+2*q7u F rows (k+1) n
theorem z0y {F:List Bool} {rows rows':Int→List Int}:∀{n:Nat} {k:Int},(∀j,k≤j→rows j=rows' j)→q7u F rows k n=q7u F rows' k n
 |0,_,_=>rfl
 |n+1,k,h=>by simp only[q7u];rw[h k (Qe6 _),z0y (n:=n) (k:=k+1) (fun j hj=>h j (by omega))]
theorem q7b {F:List Bool} {rows:Int→List Int}:∀{n:Nat} {k:Int},(∀j,k≤j→rows j=[])→q7u F rows k n=0
 |0,_,_=>rfl
 |n+1,k,h=>by simp only[q7u];rw[h k (Qe6 _),q7b (n:=n) (k:=k+1) (fun j hj=>h j (by omega))];rfl
theorem j3a {F:List Bool} {rows:Int→List Int}:∀{n m:Nat} {k:Int},n≤m→(∀j,k+n≤j→rows j=[])→q7u F rows k m=q7u F rows k n
 |0,m,k,_,h=>by rw[q7b (fun j hj=>h j (by simpa using hj))];rfl
 |n+1,0,_,hm,_=>by omega
 |n+1,m+1,k,hm,h=>by
  simp only[q7u]
  rw[j3a (n:=n) (m:=m) (k:=k+1) (by omega) (fun j hj=>h j (by omega))]
def u6v (F:List Bool):List Int→Nat
 |[]=>0
 |b::bs=>(q1u F b).toNat+2*u6v F bs
theorem j2b (bv:Nat→Bool):∀m,j3e bv (m+1)=(bv 0).toNat+2*j3e (fun i=>bv (i+1)) m
 |0=>by simp[j3e];cases bv 0<;>rfl
 |m+1=>by
  rw[j3e,j2b bv m]
  conv=>rhs;rw[j3e]
  rw[Qo1]
  split<;>omega
theorem y0u (F:List Bool):∀bits:List Int,j3e (x9c bits F) bits.length=u6v F bits
 |[]=>rfl
 |b::bs=>by
  rw[Qa8,j2b,u6v,←y0u F bs]
  rfl
theorem k5w {F:List Bool} {l:List Int} (h:¬1<l.length):(q1u F (l.headD 0)).toNat=cntT F l:=by
 rcases l with _|⟨x,_|⟨y,t⟩⟩
 ·simp[cntT,q6v]
 ·simp[cntT]
 ·simp at h
theorem k2l (l:List Int) (n:Int) (hn:1≤n) (h:1<l.length):∀c∈q7y (l.take 3) n (n+1),∃x∈c,n≤(x.natAbs:Int):=by
 rcases q2y l h with⟨a,b,e,el⟩|⟨a,b,d,t,e,el⟩
 ·rw[e,z2j]
  simp only[Qf1,Qh7,or_false]
  rintro c (rfl|rfl|rfl|rfl|rfl|rfl|rfl)
  ·exact⟨-n,by simp,by omega⟩
  ·exact⟨n,by simp,by omega⟩
  ·exact⟨n,by simp,by omega⟩
  ·exact⟨-n,by simp,by omega⟩
  ·exact⟨n+1,by simp,by omega⟩
  ·exact⟨-(n+1),by simp,by omega⟩
  ·exact⟨-(n+1),by simp,by omega⟩
 ·rw[e,q6o]
  simp only[Qf1,Qh7,or_false]
  rintro c (rfl|rfl|rfl|rfl|rfl|rfl|rfl|rfl|rfl|rfl|rfl|rfl|rfl|rfl)
  ·exact⟨-n,by simp,by omega⟩
  ·exact⟨n,by simp,by omega⟩
  ·exact⟨n,by simp,by omega⟩
  ·exact⟨-n,by simp,by omega⟩
  ·exact⟨n,by simp,by omega⟩
  ·exact⟨-n,by simp,by omega⟩
  ·exact⟨-n,by simp,by omega⟩
  ·exact⟨n,by simp,by omega⟩
  ·exact⟨n+1,by simp,by omega⟩
  ·exact⟨n+1,by simp,by omega⟩
  ·exact⟨n+1,by simp,by omega⟩
  ·exact⟨-(n+1),by simp,by omega⟩
  ·exact⟨-(n+1),by simp,by omega⟩
  ·exact⟨-(n+1),by simp,by omega⟩
theorem k1s (cs:List (List Int)) (g:List Bool) (v:Int) (m:Nat) (x c:Bool) (h1:q0w cs v v g=x) (h2:q0w cs (-v) v g= !x) (h3:q0w cs (v+1) (v+1) (g++[x])=c) (h4:q0w cs (-(v+1)) (v+1) (g++[x])= !c):
 z0s cs g v (m+2)=z0s cs (g++[x,c]) (v+2) m:=by
 rw[z0s,h1,h2,if_neg (by cases x<;>simp),z0s,h3,h4,if_neg (by cases c<;>simp),Qc4,Int.add_assoc]
 rfl
structure Cor (s:Ps) (k:Int) (rest:List (List Int)) (bits:List Int) (after:Int):Prop where
 high:∀c∈rest,∃x∈c,s.nx≤(x.natAbs:Int)
 told:∀(low:List (List Int)) (g:List Bool),(g.length:Int)=s.nx→(∀c∈low,∀x∈c,q0x s.nx x)→∃ext,z0s (low++rest) g s.nx (after-s.nx).toNat=(g++ext,true)∧((g++ext).length:Int)=after∧
  (∀c∈rest,c.any (q1u (g++ext))=true)∧∀n:Nat,s.top-k≤n→u6v (g++ext) bits=q7u (g++ext) s.rows k n
theorem j4a (next:Int):∀(f:Nat) (k:Int) (s:Ps) (o:List Int) (r:List Int×List (List Int)×Int),k9e next s→s.nx≤65537→(∀j,s.top≤j→s.rows j=[])→q5y f k s o=some r→
 r.2.2≤65537∧s.nx≤r.2.2∧∃rest bits,r.2.1=s.cs++rest∧r.1=o++bits∧Cor s k rest bits r.2.2
 |0,_,_,_,_,_,_,_,h=>by simp[q5y]at h
 |f+1,k,s,o,r,hs,hhi,hem,h=>by
  rw[q5y]at h
  by_cases h1:k<s.top
  ·rw[if_pos h1]at h
   by_cases h2:1<(s.rows k).length
   ·rw[if_pos h2]at h
    by_cases h3:65537<s.nx+2
    ·rw[if_pos h3]at h;cases h
    ·rw[if_neg h3]at h
     have e1:(q1f k s).nx=s.nx+2:=rfl
     have e2:(q1f k s).cs=s.cs++q7y ((s.rows k).take 3) s.nx (s.nx+1):=rfl
     have e3:(q1f k s).top=max (max s.top (k+1)) (k+1+1):=rfl
     have er:∀j,(q1f k s).rows j=if j=k+1 then s.rows (k+1)++[s.nx+1]else if j=k then(s.rows k).drop 3++[s.nx]else s.rows j:=fun j=>by
      simp only[q1f,z0l,x5j]
      by_cases c1:j=k+1
      ·subst c1
       rw[if_pos rfl,if_pos rfl,if_neg (show¬k+1=k by omega),if_neg (show¬k+1=k by omega)]
      ·rw[if_neg c1,if_neg c1]
       by_cases c2:j=k
       ·subst c2;simp
       ·rw[if_neg c2,if_neg c2,if_neg c2]
     have hl1:=hs.lo1
     obtain⟨b1,b2,rest,bits,b3,b4,b5⟩:=j4a next f k (q1f k s) o r (hs.step k h2) (by rw[e1];omega) (fun j hj=>by
      rw[e3]at hj
      rw[er,if_neg (by omega),if_neg (by omega)]
      exact hem j (by omega)) h
     rw[e1]at b2
     refine⟨b1,by omega,q7y ((s.rows k).take 3) s.nx (s.nx+1)++rest,bits,by rw[b3,e2,Qc4],b4,?_,?_⟩
     ·intro c hc
      rcases List.mem_append.1 hc with hc|hc
      ·exact k2l (s.rows k) s.nx hl1 h2 c hc
      ·obtain⟨x,hx,hlt⟩:=b5.high c hc
       rw[e1]at hlt
       exact⟨x,hx,by omega⟩
     ·intro low g hg hlow
      have hrow:=hs.row k
      obtain⟨m1,m2⟩:=v0o (s.rows k) s.nx g hg hl1 (by omega) h2 hrow
      generalize hS:sV g ((s.rows k).take 3)=S at m1 m2
      have hg1:((g++[S]).length:Int)=s.nx+1:=by rw[Qa3,Qi1];omega
      obtain⟨m3,m4⟩:=v1f (s.rows k) s.nx (g++[S]) hg1 hl1 (by omega) h2 hrow
      generalize hC:cV (g++[S]) ((s.rows k).take 3)=C at m3 m4
      have hg2:((g++[S,C]).length:Int)=(q1f k s).nx:=by rw[Qa3,e1];simp;omega
      obtain⟨acl,_,_⟩:=k2i (s.rows k) s.nx hl1 h2 hrow
      have hlow2:∀c∈low++q7y ((s.rows k).take 3) s.nx (s.nx+1),∀x∈c,q0x (q1f k s).nx x:=fun c hc x hx=>by
       rw[e1]
       rcases List.mem_append.1 hc with hc|hc
       ·exact(hlow c hc x hx).mono (by omega)
       ·exact acl c hc x hx
      obtain⟨ext,t1,t2,t3,t4⟩:=b5.told (low++q7y ((s.rows k).take 3) s.nx (s.nx+1)) (g++[S,C]) hg2 hlow2
      have hhigh:∀v,v<s.nx+2→∀c∈rest,∃x∈c,v<(x.natAbs:Int):=fun v hv c hc=>by
       obtain⟨x,hx,hlt⟩:=b5.high c hc
       rw[e1]at hlt
       exact⟨x,hx,by omega⟩
      have fo:∀lit v out,(lit=v∨lit= -v)→s.nx≤v→v<s.nx+2→q0w (low++(q7y ((s.rows k).take 3) s.nx (s.nx+1)++rest)) lit v out=q0w (q7y ((s.rows k).take 3) s.nx (s.nx+1)) lit v out:=fun lit v out hlit hv1 hv2=>by
       rw[j2d,j2d,x5g hlit (fun c hc x hx=>(hlow c hc x hx).mono hv1),y7h hlit (by omega) (hhigh v hv2)]
       simp
      have hm:(r.2.2-s.nx).toNat=(r.2.2-(s.nx+2)).toNat+2:=by omega
      have htold:z0s (low++(q7y ((s.rows k).take 3) s.nx (s.nx+1)++rest)) g s.nx (r.2.2-s.nx).toNat=(g++([S,C]++ext),true):=by
       rw[hm,k1s _ g s.nx _ S C (by rw[fo _ _ _ (.inl rfl) (Qe6 _) (by omega)];exact m1) (by rw[fo _ _ _ (.inr rfl) (Qe6 _) (by omega)];exact m2)
        (by rw[fo _ _ _ (.inl rfl) (by omega) (by omega)];exact m3) (by rw[fo _ _ _ (.inr rfl) (by omega) (by omega)];exact m4)]
       rw[e1,Qc4]at t1
       rw[t1,Qc4]
      rw[Qc4]at t2 t3 t4
      have hFl:(((g++([S,C]++ext)).length:Nat):Int)≤65537:=by rw[t2];exact b1
      have hFn:s.nx+2≤((g++([S,C]++ext)).length:Nat):=by rw[t2];exact b2
      have hcn:∀x,q0x s.nx x→q1u (g++([S,C]++ext)) x=q1u g x:=fun x hx=>j4i _ (by rw[hg];exact hx) hFl
      have hcnt:cntT (g++([S,C]++ext)) ((s.rows k).take 3)=cntT g ((s.rows k).take 3):=z3j (fun x hx=>hcn x (hrow x (Qf2 hx)))
      have hcnt1:cntT (g++[S]) ((s.rows k).take 3)=cntT g ((s.rows k).take 3):=z3j (fun x hx=>j4i _ (by rw[hg];exact hrow x (Qf2 hx)) (by rw[hg1];omega))
      have hsv:sV (g++([S,C]++ext)) ((s.rows k).take 3)=S:=(show sV (g++([S,C]++ext)) ((s.rows k).take 3)=sV g ((s.rows k).take 3) by unfold sV;rw[hcnt]).trans hS
      have hcv:cV (g++([S,C]++ext)) ((s.rows k).take 3)=C:=(show cV (g++([S,C]++ext)) ((s.rows k).take 3)=cV (g++[S]) ((s.rows k).take 3) by unfold cV;rw[hcnt,hcnt1]).trans hC
      have hgn:g.length=s.nx.natAbs:=by omega
      have hlS:q1u (g++([S,C]++ext)) s.nx=S:=by
       rw[q7k ⟨by omega,by omega,by omega⟩ hFl,decide_eq_true (show 0<s.nx by omega),←hgn,Qa1,Qe5 (Qb8 _)]
       simp
      have hlC:q1u (g++([S,C]++ext)) (s.nx+1)=C:=by
       rw[q7k ⟨by omega,by omega,by omega⟩ hFl,decide_eq_true (show 0<s.nx+1 by omega),show(s.nx+1).natAbs=g.length+1 by omega,Qa1,Qe5 (by omega)]
       simp
      refine⟨[S,C]++ext,htold,t2,fun c hc=>?_,fun n hn=>?_⟩
      ·rcases List.mem_append.1 hc with hc|hc
       ·exact k3z (s.rows k) s.nx _ hFl hl1 hFn h2 hrow (by rw[hlS,hsv]) (by rw[hlC,hcv]) c hc
       ·exact t3 c hc
      ·have hn2:(q1f k s).top-k≤((max n 2:Nat):Int):=by rw[e3];omega
       rw[t4 (max n 2) hn2,←j3a (n:=n) (m:=max n 2) (by omega) (fun j hj=>hem j (by omega))]
       obtain⟨m,hm2⟩:∃m,max n 2=m+2:=⟨max n 2-2,by omega⟩
       rw[hm2]
       simp only[q7u]
       rw[er k,er (k+1),if_pos rfl,if_neg (by omega),if_pos rfl,z0y (rows:=(q1f k s).rows) (rows':=s.rows) (k:=k+1+1) (fun j hj=>by rw[er,if_neg (by omega),if_neg (by omega)]),z2h,z2h]
       simp only[cntT]
       rw[hlS,hlC]
       have hval:=u4k (g++([S,C]++ext)) (s.rows k) h2
       rw[hsv,hcv]at hval
       have hsplit:cntT (g++([S,C]++ext)) (s.rows k)=cntT (g++([S,C]++ext)) ((s.rows k).take 3)+cntT (g++([S,C]++ext)) ((s.rows k).drop 3):=by
        rw[←z2h,Qi0]
       rw[hsplit]
       omega
   ·rw[if_neg h2]at h
    obtain⟨b1,b2,rest,bits,b3,b4,b5⟩:=j4a next f (k+1) s _ r hs hhi hem h
    refine⟨b1,b2,rest,(s.rows k).headD 0::bits,b3,by rw[b4,Qc4];rfl,b5.high,fun low g hg hlow=>?_⟩
    obtain⟨ext,t1,t2,t3,t4⟩:=b5.told low g hg hlow
    refine⟨ext,t1,t2,t3,fun n hn=>?_⟩
    obtain⟨m,rfl⟩:∃m,n=m+1:=⟨n-1,by omega⟩
    simp only[u6v,q7u]
    rw[t4 m (by omega),k5w h2]
  ·rw[if_neg h1]at h
   injection h with h
   subst h
   refine⟨hhi,Qe6 _,[],[],by simp,by simp,fun c hc=>by simp at hc,fun low g hg hlow=>⟨[],?_,?_,fun c hc=>by simp at hc,fun n hn=>?_⟩⟩
   ·rw[show(s.nx-s.nx).toNat=0 by omega];simp[z0s]
   ·simpa using hg
   ·rw[q7b (fun j hj=>hem j (by omega))];rfl
end Go.Proofs.YteikjpbbhopkaaaGreatDoor
namespace Go.Proofs.YteikjpbbhopkaaaGreatDoor
theorem j2t (F:List Bool) (rows:Int→List Int) (j x:Int):∀(n:Nat) (k:Int),k≤j→j<k+n→q7u F (z0l rows j x) k n=q7u F rows k n+2^(j-k).toNat*(q1u F x).toNat
 |0,k,h1,h2=>by omega
 |n+1,k,h1,h2=>by
  simp only[q7u]
  by_cases e:j=k
  ·subst e
   have e1:z0l rows j x j=rows j++[x]:=by simp[z0l]
   rw[e1,z2h,z0y (rows:=z0l rows j x) (rows':=rows) (fun i hi=>by unfold z0l;rw[if_neg (by omega)]),show(j-j).toNat=0 by omega]
   simp only[cntT]
   omega
  ·have e1:z0l rows j x k=rows k:=by unfold z0l;rw[if_neg (by omega)]
   rw[e1,j2t F rows j x n (k+1) (by omega) (by omega),show(j-k).toNat=(j-(k+1)).toNat+1 by omega,Qo1,Nat.mul_add]
   generalize 2^(j-(k+1)).toNat=P
   rw[Nat.mul_assoc,Nat.mul_left_comm P 2]
   omega
theorem j9x (c m:Nat):c%2^(m+1)=c%2^m+2^m*(c.testBit m).toNat:=by
 rw[Nat.mod_pow_succ,Qh8]
 rcases Qm3 (c/2^m)with h|h<;>rw[h]<;>simp
theorem q8k (F:List Bool) (c:Nat) (x:Int) (s:Fd):∀m,m≤64→q7u F (feedTo c x s m).1 0 64=q7u F s.1 0 64+c%2^m*(q1u F x).toNat
 |0,_=>by simp[feedTo,Nat.mod_one]
 |m+1,hm=>by
  rw[q2i,j9x,Qk5]
  by_cases hb:c.testBit m=true
  ·rw[if_pos hb]
   simp only[feed1]
   rw[j2t F _ _ x 64 0 (by omega) (by omega),q8k F c x s m (by omega),hb,show((m:Int)-0).toNat=m by omega]
   simp
   omega
  ·rw[if_neg hb,q8k F c x s m (by omega)]
   have:c.testBit m=false:=by simpa using hb
   rw[this];simp
def j0p (F:List Bool):List (Int×Int)→Int
 |[]=>0
 |q::t=>(if q1u F q.2 then q.1 else 0)+j0p F t
theorem y9h (F:List Bool):∀a b,j0p F (a++b)=j0p F a+j0p F b
 |[],b=>by simp[j0p]
 |q::a,b=>by simp only[Qc9,j0p,y9h F a b];omega
theorem j3b {F G:List Bool}:∀{a:List (Int×Int)},(∀q∈a,q1u F q.2=q1u G q.2)→j0p F a=j0p G a
 |[],_=>rfl
 |q::a,h=>by simp only[j0p];rw[h q (by simp),j3b (a:=a) (fun p hp=>h p (by simp[hp]))]
theorem z2t (F:List Bool):∀(cl:List (Int×Int)) (s:Fd),(∀q∈cl,0≤q.1∧q.1≤1099511627776)→(q7u F (q0n s cl).1 0 64:Int)=q7u F s.1 0 64+j0p F cl
 |[],s,_=>by simp[q0n,j0p]
 |q::cl,s,h=>by
  have e:q0n s (q::cl)=q0n (feedTo q.1.toNat q.2 s 64) cl:=rfl
  obtain⟨h1,h2⟩:=h q (by simp)
  rw[e,z2t F cl _ (fun p hp=>h p (by simp[hp])),q8k F _ _ _ 64 (Qb8 _),Qo3 (by omega)]
  simp only[j0p]
  cases q1u F q.2<;>simp<;>omega
theorem y2d (coef l:List Int) (F:List Bool) (hl:coef.length=l.length):∀k,k≤l.length→sumTo coef l F k=j0p F ((coef.zip l).take k)
 |0,_=>by simp[sumTo,j0p]
 |k+1,h=>by
  have hz:k<(coef.zip l).length:=by rw[Qf9];omega
  rw[sumTo,y2d coef l F hl k (by omega),Qb9 hz,y9h,Qj5]
  simp only[j0p]
  rw[Qa1,Qa0 (by omega),Qa1,Qa0 (by omega)]
  simp
theorem y1q (coef l:List Int) (F:List Bool) (hl:coef.length=l.length):sumTo coef l F l.length=j0p F (coef.zip l):=by
 rw[y2d coef l F hl l.length (Qb8 _),Qd6 (by rw[Qf9];omega)]
theorem y4w {coef l:List Int} {next:Int} {bits:List Int} {cs:List (List Int)} {after:Int} (h:z1o coef l next=.ok bits cs after):
 coef.length=l.length∧1≤next∧next≤65537∧(∀q∈coef.zip l,0≤q.1∧q.1≤1099511627776∧q0x next q.2)∧
  q5y q8h 0 {rows:=(q0n fd0 (coef.zip l)).1,cs:=[],nx:=next,top:=(q0n fd0 (coef.zip l)).2} []=some (bits,cs,after):=by
 unfold z1o at h
 split at h
 ·cases h
 ·split at h
  ·cases h
  ·split at h
   ·cases h
   ·rename_i h1 h2 h3
    generalize hr:q5y q8h 0 {rows:=(q0n fd0 (coef.zip l)).1,cs:=[],nx:=next,top:=(q0n fd0 (coef.zip l)).2} []=o at h
    cases o with
    |none=>cases h
    |some r=>
     simp only at h
     injection h with e1 e2 e3
     subst e1 e2 e3
     have hall:∀q∈coef.zip l,z8n next q=true:=by simpa using h2
     refine⟨by omega,by omega,by omega,fun q hq=>?_,rfl⟩
     have:=hall q hq
     simp[z8n]at this
     exact⟨by omega,by omega,this.1.1.2,this.2,this.1.2⟩
theorem y8p {next:Int}:∀(cl:List (Int×Int)) (s:Fd),(∀j,∀x∈s.1 j,q0x next x)→(∀q∈cl,q0x next q.2)→∀j,∀x∈(q0n s cl).1 j,q0x next x
 |[],_,hs,_=>hs
 |q::cl,s,hs,hq=>by
  have e:q0n s (q::cl)=q0n (feedTo q.1.toNat q.2 s 64) cl:=rfl
  rw[e]
  refine y8p cl _ ?_ (fun p hp=>hq p (by simp[hp]))
  have:∀t,∀j,∀x∈(feedTo q.1.toNat q.2 s t).1 j,q0x next x:=fun t=>by
   induction t with
   |zero=>exact hs
   |succ t ih2=>
    rw[q2i]
    split
    ·intro j x hx
     simp only[feed1]at hx
     rcases z5w hx with hx|rfl
     ·exact ih2 j x hx
     ·exact hq q (by simp)
    ·exact ih2
  exact this 64
theorem x0x {coef l:List Int} {next:Int} {bits:List Int} {cs:List (List Int)} {after:Int} (h:z1o coef l next=.ok bits cs after) (g:List Bool) (hg:(g.length:Int)=next):
 ∃F,z0s cs g next (after-next).toNat=(F,true)∧(F.length:Int)=after∧(∀c∈cs,c.any (q1u F)=true)∧((j3e (x9c bits F) bits.length:Nat):Int)=sumTo coef l F l.length∧sumTo coef l F l.length=j0p g (coef.zip l):=by
 obtain⟨hlen,hn1,hn2,hq,hr⟩:=y4w h
 have hs0:k9e next {rows:=(q0n fd0 (coef.zip l)).1,cs:=[],nx:=next,top:=(q0n fd0 (coef.zip l)).2}:=
  ⟨by simp only;omega,by simp,by simp,y8p _ fd0 (fun j x hx=>by simp[fd0]at hx) (fun q hqm=>(hq q hqm).2.2),fun c hc=>by simp at hc,by simp,by simp⟩
 have ok64:=(q2f.all (coef.zip l) fd0 0 q2f.zero).2
 have hem:=q2x.all (coef.zip l) fd0 (fun _ _=>rfl)
 obtain⟨b1,b2,rest,bits',b3,b4,b5⟩:=j4a next q8h 0 _ [] _ hs0 hn2 hem hr
 simp only[Qg8]at b3 b4
 subst b3 b4
 obtain⟨ext,t1,t2,t3,t4⟩:=b5.told [] g hg (fun c hc=>by simp at hc)
 simp only[Qg8]at t1
 refine⟨g++ext,t1,t2,t3,?_,?_⟩
 ·rw[y0u,t4 64 (by simp only;omega),z2t _ _ fd0 (fun q hqm=>⟨(hq q hqm).1,(hq q hqm).2.1⟩),y1q coef l _ hlen]
  rw[q7b (rows:=fd0.1) (fun _ _=>rfl)]
  simp
 ·rw[y1q coef l _ hlen]
  refine j3b (fun q hqm=>j4i _ (by rw[hg];exact(hq q hqm).2.2) (by rw[t2];exact b1))
def v2a (k:Int):Int:=if k≤40 then 16 else if k=41 then 8 else if k=42 then 4 else if k=43 then 2 else if k=44 then 1 else 0
def bR (j:Int):Int:=if j≤40 then 8 else 0
structure Bnd (next k:Int) (s:Ps) (c:Int):Prop where
 k0:0≤k
 top:s.top≤45
 c0:0≤c
 far:∀j,k+2≤j→((s.rows j).length:Int)≤bR j
 nxt:((s.rows (k+1)).length:Int)≤bR (k+1)+c
 cur:((s.rows k).length:Int)+2*c≤v2a k∨(((s.rows k).length:Int)≤1∧2*c≤v2a k)
 nx:s.nx≤next+16*k+2*c
end Go.Proofs.YteikjpbbhopkaaaGreatDoor
namespace Go.Proofs.YteikjpbbhopkaaaGreatDoor
structure q4p where
 C:List Int
 L:List Int
 B:Int
deriving DecidableEq
def k4o:q4p:=⟨[],[],0⟩
def z7y (c:Int):Bool:=decide (c< -1099511627776)||decide (1099511627776<c)
def q4j (n x:Int):Bool:=decide (x=0)||(decide (n<x)||decide (x< -n))
def q0o (l:q4p) (n:Int):Int:=
 if n<0∨65536<n∨l.C.length≠l.L.length∨z7y l.B=true then 1
 else if l.C.any z7y=true∨l.L.any (q4j n)=true then 1
 else if 4096<l.L.length then 2 else 0
theorem q1l {l:q4p} {n:Int} (h:q0o l n=0):0≤n∧n≤65536∧l.C.length=l.L.length∧(-1099511627776≤l.B∧l.B≤1099511627776)∧(∀c∈l.C,-1099511627776≤c∧c≤1099511627776)∧(∀x∈l.L,x≠0∧-n≤x∧x≤n)∧l.L.length≤4096:=by
 unfold q0o at h
 split at h
 ·omega
 ·split at h
  ·omega
  ·split at h
   ·omega
   ·rename_i h1 h2 h3
    have hB:z7y l.B=false:=by
     cases hx:z7y l.B with
     |false=>rfl
     |true=>exact absurd (.inr (.inr (.inr hx))) h1
    simp[z7y]at hB
    have hC:∀c∈l.C,z7y c=false:=by
     have:¬l.C.any z7y=true:=fun e=>h2 (.inl e)
     simpa using this
    have hL:∀x∈l.L,q4j n x=false:=by
     have:¬l.L.any (q4j n)=true:=fun e=>h2 (.inr e)
     simpa using this
    refine⟨by omega,by omega,by omega,by omega,fun c hc=>?_,fun x hx=>?_,by omega⟩
    ·have:=hC c hc
     simp[z7y]at this
     omega
    ·have:=hL x hx
     simp[q4j]at this
     omega
theorem z7o {l:q4p} {n:Int} (h1:0≤n) (h2:n≤65536) (h3:l.C.length=l.L.length) (h4: -1099511627776≤l.B∧l.B≤1099511627776) (h5:∀c∈l.C,-1099511627776≤c∧c≤1099511627776) (h6:∀x∈l.L,x≠0∧-n≤x∧x≤n) (h7:l.L.length≤4096):q0o l n=0:=by
 unfold q0o
 have hB:z7y l.B=false:=by simp[z7y];omega
 rw[if_neg (by rw[hB];simp;omega),if_neg,if_neg (by omega)]
 rw[not_or]
 constructor
 ·simp only[Qf7,not_exists,not_and]
  intro c hc
  have:=h5 c hc
  simp[z7y];omega
 ·simp only[Qf7,not_exists,not_and]
  intro x hx
  have:=h6 x hx
  simp[q4j];omega
def cfZ:List (Int×Int)→Int→Int
 |[],_=>0
 |q::t,x=>(if q.2=x then q.1 else 0)+cfZ t x
theorem y4h:∀(a b:List (Int×Int)) (x:Int),cfZ (a++b) x=cfZ a x+cfZ b x
 |[],b,x=>by simp[cfZ]
 |q::a,b,x=>by simp only[Qc9,cfZ,y4h a b x];omega
def cf (l:q4p) (x:Int):Int:=cfZ (l.C.zip l.L) x
def j6l (v:Int):List Int→List Int
 |[]=>[v]
 |y::t=>if y<v then y::j6l v t else if y=v then y::t else v::y::t
def q0h (l:List Int):List Int:=l.foldl (fun out x=>j6l (x.natAbs:Int) out) []
def q5s (a b v:Int):List (Int×Int):=if b<a then[(a-b,v)]else if a<b then[(b-a,-v)]else[]
def q0u (l:q4p) (vs:List Int):List (Int×Int):=vs.flatMap fun v=>q5s (cf l v) (cf l (-v)) v
def q2s (l:q4p):List Int→Int
 |[]=>0
 |v::t=>min (cf l v) (cf l (-v))+q2s l t
def q1e:List (Int×Int)→Int
 |[]=>0
 |q::t=>q.1+q1e t
def q6g (l:q4p):q4p:=
 if l.B-q2s l (q0h l.L)≤0 then k4o
 else if q1e (q0u l (q0h l.L))<l.B-q2s l (q0h l.L)then⟨[],[],1⟩
 else⟨(q0u l (q0h l.L)).map fun q=>min q.1 (l.B-q2s l (q0h l.L)),(q0u l (q0h l.L)).map (·.2),l.B-q2s l (q0h l.L)⟩
def q0j (l:q4p):q4p:=if q0o l 65536=0 then q6g l else k4o
def z5l (a:List Bool) (x:Int):Bool:=(decide (x.natAbs<a.length)&&a.getD x.natAbs false)==decide (0<x)
def q1n (p:Int→Bool):List (Int×Int)→Int
 |[]=>0
 |q::t=>(if p q.2 then q.1 else 0)+q1n p t
theorem z7x (p:Int→Bool):∀a b,q1n p (a++b)=q1n p a+q1n p b
 |[],b=>by simp[q1n]
 |q::a,b=>by simp only[Qc9,q1n,z7x p a b];omega
def z9p (p:Int→Bool) (l:q4p):Bool:=decide (l.B≤q1n p (l.C.zip l.L))
def y9n (l:q4p) (a:List Bool):Bool:=decide (q0o l 65536=0)&&z9p (z5l a) l
def Inc:List Int→Prop
 |[]=>True
 |x::t=>(∀y∈t,x<y)∧Inc t
theorem z5v {v y:Int}:∀{l:List Int},y∈j6l v l↔y=v∨y∈l
 |[]=>by simp[j6l]
 |z::t=>by
  simp only[j6l]
  split
  ·rw[Qf1,Qf1,z5v (l:=t)]
   constructor
   ·rintro(h|h|h)
    ·exact .inr (.inl h)
    ·exact .inl h
    ·exact .inr (.inr h)
   ·rintro(h|h|h)
    ·exact .inr (.inl h)
    ·exact .inl h
    ·exact .inr (.inr h)
  ·split
   ·rename_i h;subst h;simp
   ·simp
theorem x0j (v:Int):∀{l:List Int},Inc l→Inc (j6l v l)
 |[],_=>by simp[j6l,Inc]
 |z::t,h=>by
  obtain⟨h1,h2⟩:=h
  simp only[j6l]
  split
  ·refine⟨fun y hy=>?_,x0j v h2⟩
   rcases z5v.1 hy with rfl|hy
   ·assumption
   ·exact h1 y hy
  ·split
   ·exact⟨h1,h2⟩
   ·refine⟨fun y hy=>?_,h1,h2⟩
    rcases List.mem_cons.1 hy with rfl|hy
    ·omega
    ·have:=h1 y hy;omega
theorem k1d:∀{a b:List Int},Inc a→Inc b→(∀y,y∈a↔y∈b)→a=b
 |[],[],_,_,_=>rfl
 |[],y::b,_,_,h=>absurd ((h y).2 (by simp)) (by simp)
 |x::a,[],_,_,h=>absurd ((h x).1 (by simp)) (by simp)
 |x::a,y::b,ha,hb,h=>by
  have hxy:x=y:=by
   have h1:=(h x).1 (by simp)
   have h2:=(h y).2 (by simp)
   rcases List.mem_cons.1 h1 with h1|h1
   ·exact h1
   ·rcases List.mem_cons.1 h2 with h2|h2
    ·exact h2.symm
    ·have:=ha.1 y h2
     have:=hb.1 x h1
     omega
  subst hxy
  congr 1
  refine k1d ha.2 hb.2 (fun z=>⟨fun hz=>?_,fun hz=>?_⟩)
  ·rcases List.mem_cons.1 ((h z).1 (by simp[hz]))with e|e
   ·subst e;have:=ha.1 z hz;omega
   ·exact e
  ·rcases List.mem_cons.1 ((h z).2 (by simp[hz]))with e|e
   ·subst e;have:=hb.1 z hz;omega
   ·exact e
theorem j1g (l:List Int) (x:Int):q0h (l++[x])=j6l (x.natAbs:Int) (q0h l):=by simp[q0h]
theorem q9i (l:List Int):Inc (q0h l):=by
 have:∀(l:List Int) (o:List Int),Inc o→Inc (l.foldl (fun out x=>j6l (x.natAbs:Int) out) o):=fun l=>by
  induction l with
  |nil=>intro o h;exact h
  |cons x t ih=>intro o h;exact ih _ (x0j _ h)
 exact this l [] trivial
theorem q4e {l:List Int} {y:Int}:y∈q0h l↔∃x∈l,y=(x.natAbs:Int):=by
 have:∀(l:List Int) (o:List Int),y∈l.foldl (fun out x=>j6l (x.natAbs:Int) out) o↔y∈o∨∃x∈l,y=(x.natAbs:Int):=fun l=>by
  induction l with
  |nil=>intro o;simp
  |cons x t ih=>
   intro o
   rw[Qe2,ih,z5v]
   constructor
   ·rintro((h|h)|⟨z,hz,h⟩)
    ·exact .inr ⟨x,by simp,h⟩
    ·exact .inl h
    ·exact .inr ⟨z,by simp[hz],h⟩
   ·rintro(h|⟨z,hz,h⟩)
    ·exact .inl (.inr h)
    ·rcases List.mem_cons.1 hz with rfl|hz
     ·exact .inl (.inl h)
     ·exact .inr ⟨z,hz,h⟩
 have h:=this l []
 unfold q0h
 rw[h]
 simp
end Go.Proofs.YteikjpbbhopkaaaGreatDoor
namespace Go.Proofs.YteikjpbbhopkaaaGreatDoor
def y7k (p:Int→Bool) (z:List (Int×Int)):List Int→Int
 |[]=>0
 |v::t=>(if p v then cfZ z v else cfZ z (-v))+y7k p z t
theorem q9q (z:List (Int×Int)) (c x y:Int):cfZ (z++[(c,x)]) y=cfZ z y+if x=y then c else 0:=by
 rw[y4h];simp only[cfZ];omega
theorem j3p (p:Int→Bool) (z:List (Int×Int)) (c x:Int):∀(vs:List Int),(∀v∈vs,0<v∧v≠(x.natAbs:Int))→y7k p (z++[(c,x)]) vs=y7k p z vs
 |[],_=>rfl
 |v::t,h=>by
  obtain⟨h1,h2⟩:=h v (by simp)
  simp only[y7k]
  rw[j3p p z c x t (fun u hu=>h u (by simp[hu])),q9q,q9q,if_neg (show¬x=v by omega),if_neg (show¬x= -v by omega)]
  simp
theorem y7d (p:Int→Bool) (z:List (Int×Int)) (c x:Int) (hx:x≠0) (hp:p (-x)= !p x):
 (if p (x.natAbs:Int)then cfZ (z++[(c,x)]) (x.natAbs:Int)else cfZ (z++[(c,x)]) (-(x.natAbs:Int)))=(if p (x.natAbs:Int)then cfZ z (x.natAbs:Int)else cfZ z (-(x.natAbs:Int)))+if p x then c else 0:=by
 rw[q9q,q9q]
 rcases Int.lt_or_le 0 x with h|h
 ·have e:(x.natAbs:Int)=x:=by omega
  rw[e,if_pos rfl,if_neg (show¬x= -x by omega)]
  split<;>simp
 ·have e:(x.natAbs:Int)= -x:=by omega
  rw[e,if_neg (show¬x= -x by omega),Qq8,if_pos rfl,hp]
  cases p x<;>simp
theorem y9w (p:Int→Bool) (z:List (Int×Int)) (c x:Int) (hx:x≠0) (hp:p (-x)= !p x):∀(vs:List Int),Inc vs→(∀v∈vs,0<v)→((x.natAbs:Int)∉vs→cfZ z (x.natAbs:Int)=0∧cfZ z (-(x.natAbs:Int))=0)→
 y7k p (z++[(c,x)]) (j6l (x.natAbs:Int) vs)=y7k p z vs+if p x then c else 0
 |[],_,_,h0=>by
  obtain⟨h1,h2⟩:=h0 (by simp)
  simp only[j6l,y7k]
  rw[y7d p z c x hx hp,h1,h2]
  split<;>simp
 |v::t,hi,hpos,h0=>by
  have hv:=hpos v (by simp)
  simp only[j6l]
  split
  ·rename_i hlt
   simp only[y7k]
   rw[y9w p z c x hx hp t hi.2 (fun u hu=>hpos u (by simp[hu])) (fun hn=>h0 (fun hm=>by
    rcases List.mem_cons.1 hm with e|e
    ·omega
    ·exact hn e)),q9q,q9q,if_neg (show¬x=v by omega),if_neg (show¬x= -v by omega)]
   simp only[Qn9]
   omega
  ·split
   ·rename_i _ he
    simp only[y7k]
    rw[j3p p z c x t (fun u hu=>⟨hpos u (by simp[hu]),by have:=hi.1 u hu;omega⟩)]
    have:=y7d p z c x hx hp
    rw[←he]at this
    rw[this]
    omega
   ·rename_i h1 h2
    obtain⟨z1,z2⟩:=h0 (fun hm=>by
     rcases List.mem_cons.1 hm with e|e
     ·omega
     ·have:=hi.1 _ e;omega)
    have hfar:=j3p p z c x (v::t) (fun u hu=>⟨hpos u hu,by
     rcases List.mem_cons.1 hu with e|e
     ·omega
     ·have:=hi.1 u e;omega⟩)
    have:=y7d p z c x hx hp
    rw[z1,z2]at this
    simp only[y7k]at hfar⊢
    rw[this]
    simp only[ite_self,Qr6]
    omega
theorem z6a {z:List (Int×Int)} {y:Int} (h:∀q∈z,q.2≠y):cfZ z y=0:=by
 induction z with
 |nil=>rfl
 |cons q t ih=>simp only[cfZ];rw[if_neg (h q (by simp)),ih (fun p hp=>h p (by simp[hp]))];rfl
theorem group (p:Int→Bool) (z:List (Int×Int)) (hz:∀q∈z,q.2≠0) (hp:∀x,x≠0→p (-x)= !p x):q1n p z=y7k p z (q0h (z.map (·.2))):=by
 have:∀(r:List (Int×Int)),(∀q∈r.reverse,q.2≠0)→q1n p r.reverse=y7k p r.reverse (q0h (r.reverse.map (·.2))):=fun r=>by
  induction r with
  |nil=>intro _;rfl
  |cons q r ih=>
   intro h
   rw[List.reverse_cons]at h⊢
   have hq:=h q (by simp)
   have hr:∀q∈r.reverse,q.2≠0:=fun u hu=>h u (Qd7 _ hu)
   rw[z7x,Qd4,ih hr]
   obtain⟨c,x⟩:=q
   show _+q1n p [(c,x)]=y7k p _ (q0h (_++[x]))
   rw[j1g,y9w p r.reverse c x hq (hp x hq) _ (q9i _) (fun v hv=>by
    obtain⟨y,hy,rfl⟩:=q4e.1 hv
    obtain⟨u,hu,rfl⟩:=List.mem_map.1 hy
    have:=hr u hu
    omega) (fun hn=>by
    have hno:∀u∈r.reverse,(u.2.natAbs:Int)≠(x.natAbs:Int):=fun u hu e=>hn (q4e.2 ⟨u.2,List.mem_map.2 ⟨u,hu,rfl⟩,e.symm⟩)
    exact⟨z6a (fun u hu e=>hno u hu (by rw[e];omega)),z6a (fun u hu e=>hno u hu (by rw[e];omega))⟩)]
   simp[q1n]
 have h:=this z.reverse (by rw[List.reverse_reverse];exact hz)
 rwa [List.reverse_reverse]at h
theorem k4d {C L:List Int} (h:C.length=L.length):(C.zip L).map (·.2)=L:=List.map_snd_zip (by omega)
theorem j9y (p:Int→Bool) (l:q4p) (hp:∀x,x≠0→p (-x)= !p x):∀vs:List Int,(∀v∈vs,0<v)→y7k p (l.C.zip l.L) vs=q2s l vs+q1n p (q0u l vs)
 |[],_=>rfl
 |v::t,h=>by
  have ih:=j9y p l hp t (fun u hu=>h u (by simp[hu]))
  have hv:=h v (by simp)
  have hpv:=hp v (by omega)
  have e:q0u l (v::t)=q5s (cf l v) (cf l (-v)) v++q0u l t:=by simp[q0u]
  rw[e,z7x]
  simp only[y7k,q2s]
  rw[ih]
  have:(if p v then cfZ (l.C.zip l.L) v else cfZ (l.C.zip l.L) (-v))=min (cf l v) (cf l (-v))+q1n p (q5s (cf l v) (cf l (-v)) v):=by
   show(if p v then cf l v else cf l (-v))=_
   unfold q5s
   generalize cf l v=a
   generalize cf l (-v)=b
   by_cases c1:b<a
   ·rw[if_pos c1];simp only[q1n];cases p v<;>simp<;>omega
   ·rw[if_neg c1]
    by_cases c2:a<b
    ·rw[if_pos c2];simp only[q1n];rw[hpv];cases p v<;>simp<;>omega
    ·rw[if_neg c2];simp only[q1n];cases p v<;>simp<;>omega
  omega
theorem x3p (p:Int→Bool) (l:q4p) (hl:l.C.length=l.L.length) (hz:∀x∈l.L,x≠0) (hp:∀x,x≠0→p (-x)= !p x):q1n p (l.C.zip l.L)=q2s l (q0h l.L)+q1n p (q0u l (q0h l.L)):=by
 rw[group p _ (fun q hq=>hz q.2 (Qf8 hq).2) hp,k4d hl,j9y p l hp _ (fun v hv=>by
  obtain⟨x,hx,rfl⟩:=q4e.1 hv
  have:=hz x hx
  omega)]
theorem q6n (l:q4p) (vs:List Int):∀q∈q0u l vs,0<q.1:=fun q hq=>by
 unfold q0u at hq
 obtain⟨v,_,hq⟩:=List.mem_flatMap.1 hq
 unfold q5s at hq
 split at hq
 ·simp at hq;subst hq;simp only;omega
 ·split at hq
  ·simp at hq;subst hq;simp only;omega
  ·simp at hq
theorem z7f {l:q4p} {vs:List Int} {q:Int×Int} (hq:q∈q0u l vs):∃v∈vs,q.2=v∨q.2= -v:=by
 unfold q0u at hq
 obtain⟨v,hv,hq⟩:=List.mem_flatMap.1 hq
 unfold q5s at hq
 split at hq
 ·simp at hq;subst hq;exact⟨v,hv,.inl rfl⟩
 ·split at hq
  ·simp at hq;subst hq;exact⟨v,hv,.inr rfl⟩
  ·simp at hq
theorem k3x (p:Int→Bool):∀ts:List (Int×Int),(∀q∈ts,0<q.1)→0≤q1n p ts∧q1n p ts≤q1e ts
 |[],_=>by simp[q1n,q1e]
 |q::t,h=>by
  have:=k3x p t (fun u hu=>h u (by simp[hu]))
  have:=h q (by simp)
  simp only[q1n,q1e]
  split<;>omega
theorem x0d (p:Int→Bool) (B:Int) (hB:0<B):∀ts:List (Int×Int),(∀q∈ts,0<q.1)→q1n p (ts.map fun q=>(min q.1 B,q.2))≤q1n p ts∧0≤q1n p (ts.map fun q=>(min q.1 B,q.2))∧(q1n p (ts.map fun q=>(min q.1 B,q.2))<B→q1n p (ts.map fun q=>(min q.1 B,q.2))=q1n p ts)
 |[],_=>by simp[q1n]
 |q::t,h=>by
  obtain⟨h1,h2,h3⟩:=x0d p B hB t (fun u hu=>h u (by simp[hu]))
  have h4:=h q (by simp)
  simp only[Qc6,q1n]
  cases p q.2
  ·simp only[Qj6,if_false,Qr6]
   exact⟨h1,h2,h3⟩
  ·simp only[if_true]
   refine⟨by omega,by omega,fun h5=>?_⟩
   have:=h3 (by omega)
   omega
theorem z5u (ts:List (Int×Int)) (f:Int×Int→Int):(ts.map f).zip (ts.map (·.2))=ts.map fun q=>(f q,q.2):=by
 induction ts with
 |nil=>rfl
 |cons q t ih=>simp[ih]
theorem z3e (p:Int→Bool) (l:q4p) (hl:l.C.length=l.L.length) (hz:∀x∈l.L,x≠0) (hp:∀x,x≠0→p (-x)= !p x):z9p p (q6g l)=z9p p l:=by
 unfold z9p
 have hs:=x3p p l hl hz hp
 have hpos:=q6n l (q0h l.L)
 have hnn:=k3x p _ hpos
 unfold q6g
 generalize q0u l (q0h l.L)=ts at*
 generalize q2s l (q0h l.L)=m at*
 by_cases h1:l.B-m≤0
 ·rw[if_pos h1,decide_eq_decide]
  simp only[k4o,Qp9,q1n]
  omega
 ·rw[if_neg h1]
  by_cases h2:q1e ts<l.B-m
  ·rw[if_pos h2,decide_eq_decide]
   simp only[Qp9,q1n]
   omega
  ·rw[if_neg h2,decide_eq_decide]
   simp only
   rw[z5u]
   obtain⟨a,b,c⟩:=x0d p (l.B-m) (by omega) ts hpos
   constructor
   ·intro h;omega
   ·intro h
    rcases Int.lt_or_le (q1n p (ts.map fun q=>(min q.1 (l.B-m),q.2))) (l.B-m)with h3|h3
    ·have:=c h3;omega
    ·exact h3
end Go.Proofs.YteikjpbbhopkaaaGreatDoor
namespace Go.Proofs.YteikjpbbhopkaaaGreatDoor
def z8o (z:List (Int×Int)):List Int→Nat
 |[]=>0
 |v::t=>(cfZ z v).natAbs+(cfZ z (-v)).natAbs+z8o z t
def u6r:List (Int×Int)→Nat
 |[]=>0
 |q::t=>q.1.natAbs+u6r t
theorem y7s:∀vs:List Int,z8o [] vs=0
 |[]=>rfl
 |_::t=>by simp[z8o,cfZ,y7s t]
theorem x1v (q:Int×Int) (z:List (Int×Int)):∀vs:List Int,(∀v∈vs,q.2≠v∧q.2≠-v)→z8o (q::z) vs=z8o z vs
 |[],_=>rfl
 |v::t,h=>by
  have h1:=h v (by simp)
  simp only[z8o,cfZ,if_neg h1.1,if_neg h1.2,Qr6,x1v q z t (fun u hu=>h u (by simp[hu]))]
theorem y2e (q:Int×Int) (z:List (Int×Int)):∀vs:List Int,Inc vs→(∀v∈vs,0<v)→z8o (q::z) vs≤q.1.natAbs+z8o z vs
 |[],_,_=>by simp[z8o]
 |v::t,hi,hp=>by
  have hpv:=hp v (by simp)
  by_cases hq:q.2=v∨q.2= -v
  ·have hf:=x1v q z t (fun u hu=>by
    have:=hi.1 u hu
    have:=hp u (by simp[hu])
    rcases hq with e|e<;>rw[e]<;>constructor<;>omega)
   simp only[z8o,cfZ,hf]
   rcases hq with e|e
   ·rw[if_pos e,if_neg (by omega)];omega
   ·rw[if_neg (by omega),if_pos e];omega
  ·have hn:q.2≠v∧q.2≠-v:=⟨fun e=>hq (.inl e),fun e=>hq (.inr e)⟩
   have ih:=y2e q z t hi.2 (fun u hu=>hp u (by simp[hu]))
   simp only[z8o,cfZ,if_neg hn.1,if_neg hn.2,Qr6]
   omega
theorem x5v:∀(z:List (Int×Int)) (vs:List Int),Inc vs→(∀v∈vs,0<v)→z8o z vs≤u6r z
 |[],vs,_,_=>by simp[y7s]
 |q::z,vs,hi,hp=>by
  have h1:=y2e q z vs hi hp
  have h2:=x5v z vs hi hp
  simp only[u6r]
  omega
theorem k3m (M:Nat):∀z:List (Int×Int),(∀q∈z,q.1.natAbs≤M)→u6r z≤M*z.length
 |[],_=>by simp[u6r]
 |q::z,h=>by
  have h1:=h q (by simp)
  have h2:=k3m M z (fun u hu=>h u (by simp[hu]))
  simp only[u6r,Qa8,Nat.mul_add,Qf6]
  omega
theorem z7c (z:List (Int×Int)):∀(vs:List Int) (k:Nat),z8o z (vs.take k)≤z8o z vs
 |[],k=>by simp
 |v::t,0=>by simp[z8o]
 |v::t,k+1=>by
  have:=z7c z t k
  simp only[Qj2,z8o]
  omega
theorem y7o (l:q4p):∀vs:List Int,(q2s l vs).natAbs≤z8o (l.C.zip l.L) vs
 |[]=>by simp[q2s,z8o]
 |v::t=>by
  have ih:=y7o l t
  simp only[q2s,z8o,cf]
  omega
theorem y0l:∀a b:List (Int×Int),q1e (a++b)=q1e a+q1e b
 |[],b=>by simp[q1e]
 |q::a,b=>by simp only[Qc9,q1e,y0l a b];omega
theorem y0n (l:q4p):∀vs:List Int,0≤q1e (q0u l vs)∧q1e (q0u l vs)≤z8o (l.C.zip l.L) vs
 |[]=>by simp[q0u,q1e,z8o]
 |v::t=>by
  have ih:=y0n l t
  have e:q0u l (v::t)=q5s (cf l v) (cf l (-v)) v++q0u l t:=rfl
  rw[e,y0l]
  simp only[z8o]
  unfold q5s cf
  split
  ·simp only[q1e];omega
  ·split
   ·simp only[q1e];omega
   ·simp only[q1e];omega
theorem q9v:∀(ts:List (Int×Int)) (k:Nat),(∀q∈ts,0<q.1)→0≤q1e (ts.take k)∧q1e (ts.take k)≤q1e ts
 |[],k,_=>by simp[q1e]
 |q::t,0,h=>by
  have:=h q (by simp)
  have:=q9v t 0 (fun u hu=>h u (by simp[hu]))
  simp only[Qn7,q1e]at this⊢
  omega
 |q::t,k+1,h=>by
  have:=h q (by simp)
  have:=q9v t k (fun u hu=>h u (by simp[hu]))
  simp only[Qj2,q1e]
  omega
theorem z4t:∀(ts:List (Int×Int)) (q:Int×Int),(∀u∈ts,0<u.1)→q∈ts→q.1≤q1e ts
 |u::t,q,h,hq=>by
  have h1:=h u (by simp)
  have h2:=(q9v t 0 (fun u hu=>h u (by simp[hu])))
  simp only[Qn7,q1e]at h2⊢
  rcases List.mem_cons.1 hq with rfl|hq
  ·omega
  ·have:=z4t t q (fun u hu=>h u (by simp[hu])) hq
   omega
theorem k2o (a b v:Int):(q5s a b v).length≤1:=by unfold q5s;split<;>(try split)<;>simp
theorem q8n (l:q4p):∀vs:List Int,(q0u l vs).length≤vs.length
 |[]=>by simp[q0u]
 |v::t=>by
  have:=q8n l t
  have h1:=k2o (cf l v) (cf l (-v)) v
  have e:q0u l (v::t)=q5s (cf l v) (cf l (-v)) v++q0u l t:=rfl
  rw[e]
  simp only[Qa3,Qa8]
  omega
theorem y7q {L:List Int} (h:∀x∈L,x≠0):∀v∈q0h L,0<v:=fun v hv=>by
 obtain⟨x,hx,rfl⟩:=q4e.1 hv
 have:=h x hx
 omega
theorem j5r {L:List Int} {n:Int} (h:∀x∈L,x≠0∧-n≤x∧x≤n):∀v∈q0h L,0<v∧v≤n:=fun v hv=>by
 obtain⟨x,hx,rfl⟩:=q4e.1 hv
 have:=h x hx
 omega
theorem x0l {l:q4p} (h:q0o l 65536=0):z8o (l.C.zip l.L) (q0h l.L)≤4503599627370496:=by
 obtain⟨_,_,hl,_,hc,hx,hn⟩:=q1l h
 refine Qc0 (x5v _ _ (q9i _) (y7q fun x hx'=>(hx x hx').1)) (Qc0 (k3m 1099511627776 _ ?_) ?_)
 ·intro q hq
  have:=hc q.1 (Qf8 hq).1
  omega
 ·have:(l.C.zip l.L).length≤4096:=by rw[Qf9];omega
  calc 1099511627776*(l.C.zip l.L).length≤1099511627776*4096:=Nat.mul_le_mul_left _ this
   _≤_:=by decide
theorem x9x {l:q4p} (h:q0o l 65536=0) (k:Nat): -4503599627370496≤q2s l ((q0h l.L).take k)∧q2s l ((q0h l.L).take k)≤4503599627370496:=by
 have h1:=y7o l ((q0h l.L).take k)
 have h2:=z7c (l.C.zip l.L) (q0h l.L) k
 have h3:=x0l h
 omega
theorem j5n {l:q4p} (h:q0o l 65536=0) (k:Nat):0≤q1e (q0u l ((q0h l.L).take k))∧q1e (q0u l ((q0h l.L).take k))≤4503599627370496:=by
 have h1:=y0n l ((q0h l.L).take k)
 have h2:=z7c (l.C.zip l.L) (q0h l.L) k
 have h3:=x0l h
 omega
theorem j1s (l:q4p):∀(vs:List Int) (v:Int),q2s l (vs++[v])=q2s l vs+min (cf l v) (cf l (-v))
 |[],v=>by simp[q2s]
 |u::t,v=>by simp only[Qc9,q2s,j1s l t v];omega
theorem y3y (l:q4p) (vs:List Int) (v:Int):q0u l (vs++[v])=q0u l vs++q5s (cf l v) (cf l (-v)) v:=by simp[q0u]
theorem j9v (L:List Int):(q0h L).length≤L.length:=by
 have ins:∀(v:Int) (l:List Int),(j6l v l).length≤l.length+1:=fun v l=>by
  induction l with
  |nil=>simp[j6l]
  |cons y t ih=>unfold j6l;split<;>(try split)<;>simp<;>omega
 have go:∀(L acc:List Int),(L.foldl (fun out x=>j6l (x.natAbs:Int) out) acc).length≤L.length+acc.length:=fun L=>by
  induction L with
  |nil=>intro acc;simp
  |cons x t ih=>intro acc;have:=ih (j6l (x.natAbs:Int) acc);have:=ins (x.natAbs:Int) acc;simp only[Qe2,Qa8];omega
 exact go L []
end Go.Proofs.YteikjpbbhopkaaaGreatDoor
namespace Go.Proofs.YteikjpbbhopkaaaGreatDoor
theorem j7c {g:List Bool} {x:Int} (h:x≠0):z5l g (-x)= !z5l g x:=by
 unfold z5l
 rw[Qk0]
 by_cases h0:0<x
 ·rw[decide_eq_true h0,decide_eq_false (show¬(0< -x) by omega)]
  cases(decide (x.natAbs<g.length)&&g.getD x.natAbs false)<;>rfl
 ·rw[decide_eq_false h0,decide_eq_true (show 0< -x by omega)]
  cases(decide (x.natAbs<g.length)&&g.getD x.natAbs false)<;>rfl
theorem j8q {g:List Bool} {x:Int} (h:x≠0∧-65536≤x∧x≤65536):q1u g x=z5l g x:=by
 unfold q1u z5l
 rw[decide_eq_true h]
 rfl
theorem z9a {g:List Bool}:∀{z:List (Int×Int)},(∀q∈z,q.2≠0∧-65536≤q.2∧q.2≤65536)→j0p g z=q1n (z5l g) z
 |[],_=>rfl
 |q::t,h=>by
  have ih:=z9a (g:=g) (z:=t) fun p hp=>h p (Qb7 _ hp)
  have hq:=j8q (g:=g) (h q Qb4)
  show(if q1u g q.2 then q.1 else 0)+j0p g t=_
  rw[ih,hq]
  rfl
theorem x3c {x:q4p} {n:Int} (hn:0≤n) (hn2:n≤65536) (hc:q0o x n=0):q0j x=q6g x∧q0o x 65536=0∧(q0j x).C.length≤x.L.length∧0≤(q0j x).B∧(q0j x).B≤4503599627370496:=by
 obtain⟨_,_,h3,h4,h5,h6,h7⟩:=q1l hc
 have hc2:q0o x 65536=0:=z7o (by decide) (by decide) h3 h4 h5 (fun y hy=>by have:=h6 y hy;omega) h7
 have e:q0j x=q6g x:=if_pos hc2
 refine⟨e,hc2,?_⟩
 rw[e]
 unfold q6g
 have h1:=q8n x (q0h x.L)
 have h2:=j9v x.L
 have h8:=j5n hc2 (q0h x.L).length
 rw[Qd3]at h8
 split
 ·exact⟨Qc1 _,by decide,by decide⟩
 ·split
  ·exact⟨Qc1 _,by decide,by decide⟩
  ·refine⟨by simp;omega,?_,?_⟩
   ·show 0≤x.B-q2s x (q0h x.L);omega
   ·show x.B-q2s x (q0h x.L)≤_;omega
end Go.Proofs.YteikjpbbhopkaaaGreatDoor
namespace Go.Proofs.YteikjpbbhopkaaaGreatDoor
end Go.Proofs.YteikjpbbhopkaaaGreatDoor
