/- Lemmas and contracts for the row. -/
import Derived.Test.YteikjpbbhopkaaaGreatDoorPkRowElimGatesAV
import Derived.Test.YteikjpbbhopkaaaGreatDoorRows
import Derived.Test.YteikjpbbhopkaaaGreatDoorPkRowElimGatesY
set_option linter.unusedVariables false
set_option linter.unusedSimpArgs false
set_option linter.unnecessarySimpa false
namespace Go.Proofs.YteikjpbbhopkaaaGreatDoor.En
open Go Go.ChangeShapes Go.WideShapes Go.ChangeAt Go.RowKit Go.Joins Go.Deep
section
variable {H : Type} {enc : TypeId × Value → H} {w : World} {base b0 : Nat} {v : Value} {d : DataW H} {p : List MemPlace} {r : Reach}
theorem z4q {P:Program} {e:TypeId} {q:Nat→Bool}:∀{ds:List (DataW H)},(DataW.weightsAll P e ds).all q=true→∀d∈ds,(DataW.weights P e d).all q=true
 |[],_,d,hd=>by cases hd
 |x::ds,h,d,hd=>by
  rw[DataW.weightsAll,Qj0,Qa2]at h
  rcases List.mem_cons.1 hd with e|e
  ·rw[e];exact h.1
  ·exact z4q h.2 d e
theorem j0m {P:Program} {t e:TypeId} {q:Nat→Bool} {el sp:List (DataW H)} (ht:P.underlying t=some (.slice e)) (h:(DataW.weights P t (.slice el sp)).all q=true):q ((el.length+sp.length)*P.bytesOf e)=true∧∀d∈el,(DataW.weights P e d).all q=true:=by
 rw[DataW.weights,ht]at h
 simp only[Qj8,Qj0,Qa2]at h
 exact⟨h.1,z4q h.2.1⟩
theorem k4m (d:DataW H):1≤Rows.uptoBulk d:=by
 cases d with
 |lit l=>cases l<;>simp[Rows.uptoBulk]
 |nil=>simp[Rows.uptoBulk]
 |ptr d=>simp[Rows.uptoBulk]
 |slice elems spare=>simp[Rows.uptoBulk]
 |agg parts=>simp[Rows.uptoBulk]
 |iface t d=>simp[Rows.uptoBulk]
 |map entries=>simp[Rows.uptoBulk]
 |held h=>simp[Rows.uptoBulk]
theorem k7g (L:List (DataW H)) (X:List Tree) (hl:L.length=X.length) (h:∀i,i<X.length→2*Fl.q2a (X.getD i q0a)≤Rows.uptoBulk (L.getD i .nil)):2*Fl.q0p X≤Rows.uptoBulkAll L:=by
 induction X generalizing L with
 |nil=>simp[Fl.q0p]
 |cons x X ih=>
  match L,hl with
  |y::L,hl=>
   have h0:=h 0 (by simp)
   simp only[List.getD_cons_zero]at h0
   have:=ih L (by simpa using hl) (fun i hi=>by have:=h (i+1) (by simp;omega);simpa only[Qk8]using this)
   simp only[Fl.q0p,Rows.uptoBulkAll];omega
theorem k5d {X:List Tree} (h:∀i,i<X.length→Fl.x3n (X.getD i q0a)):Fl.q2b X:=by
 induction X with
 |nil=>simp only[Fl.q2b]
 |cons x X ih=>
  simp only[Fl.q2b]
  exact⟨by simpa using h 0 (by simp),ih fun i hi=>by have:=h (i+1) (by simp;omega);simpa only[Qk8]using this⟩
set_option maxRecDepth 100000 in
set_option maxHeartbeats 1000000 in
theorem j1e:∀(N:Nat) (d:DataW H),SizeOf.sizeOf d<N→∀(fuel:Nat) (cs:List Value) (pl:List MemPlace),DataW.trod enc Tryz.prog w base (fun _=>true) true fuel 22 cs=some (d,pl)→
 ∃v l,cs=[v]∧Rep w (gW w).G (.ls (.trees l)) v∧((DataW.weights Tryz.prog 22 d).all (· ≤reachBytes)=true→l.length≤2932031007317∧Fl.q2b l)∧2*Fl.q0p l≤Rows.uptoBulk d
 |0,d,h=>by omega
 |N+1,d,hN=>by
  intro fuel cs pl h
  rcases open_slice Tryz.underlying22 h with⟨rfl,h1⟩|⟨a,len,cap,m,n,D,Pl,rfl,_,hl,hm,hmm,hxd,hcell⟩
  ·exact⟨_,[],rfl,.nil _ none 0 rfl,fun _=>⟨by simp,by simp only[Fl.q2b]⟩,by simp[Fl.q0p]⟩
  ·simp only[if_true]at hmm
   subst hmm
   have hd:d=.slice ((List.range len).map D) ((List.range (m-len)).map fun j=>D (len+j)):=congrArg Prod.fst hxd
   have hmem:∀i,i<len→D i∈(List.range len).map D:=fun i hi=>List.mem_map.2 ⟨i,List.mem_range.2 hi,rfl⟩
   have hsz:∀i,i<len→SizeOf.sizeOf (D i)<N:=fun i hi=>by
    have h1:=List.sizeOf_lt_of_mem (hmem i hi)
    rw[hd]at hN
    simp only[DataW.slice.sizeOf_spec]at hN
    omega
   have each:∀i,∃q:Int×Int×Int×Value×List Tree,i<len→w.cell? (a.add (i*4))=some (I64 q.1)∧w.cell? (a.add (i*4+1))=some (I64 q.2.1)∧w.cell? (a.add (i*4+2))=some (I64 q.2.2.1)∧w.cell? (a.add (i*4+3))=some q.2.2.2.1∧
    Rep w (gW w).G (.ls (.trees q.2.2.2.2)) q.2.2.2.1∧((DataW.weights Tryz.prog 24 (D i)).all (· ≤reachBytes)=true→q.2.2.2.2.length≤2932031007317∧Fl.q2b q.2.2.2.2)∧2*(1+Fl.q0p q.2.2.2.2)≤Rows.uptoBulk (D i):=fun i=>by
    by_cases hi:i<len
    ·obtain⟨cs',h1,h2⟩:=hcell i (by omega)
     rw[show Tryz.prog.cellsOf 24=4 by kernel_rfl]at h1
     obtain⟨_,hlen,hc⟩:=World.cells?_some h1
     obtain⟨y0,y1,y2,y3,k,hx,_,g0,g1,g2,g3⟩:=trod_struct4 Tryz.underlying24 h2
     match cs',hlen with
     |[v0,v1,v2,v3],_=>
      have c0:=hc 0 (by omega)
      have c1:=hc 1 (by omega)
      have c2:=hc 2 (by omega)
      have c3:=hc 3 (by omega)
      rw[add_add]at c0 c1 c2 c3
      have hDi:D i=.agg [y0.1,y1.1,y2.1,y3.1]:=congrArg Prod.fst hx
      have hy3:SizeOf.sizeOf y3.1<N:=by
       have:=hsz i hi
       rw[hDi]at this
       simp only[DataW.agg.sizeOf_spec,List.cons.sizeOf_spec]at this
       omega
      have i1:Tryz.prog.cellsOf 3=1:=by kernel_rfl
      have i2:Tryz.prog.cellsOf 22=1:=by kernel_rfl
      simp only[i1,i2,List.drop_zero,List.drop_succ_cons,Qj2,Qn7]at g0 g1 g2 g3
      obtain⟨z0,e0,_,_⟩:=DataW.trod_int Tryz.underlying3 g0
      obtain⟨z1,e1,_,_⟩:=DataW.trod_int Tryz.underlying3 g1
      obtain⟨z2,e2,_,_⟩:=DataW.trod_int Tryz.underlying3 g2
      injection e0 with e0
      injection e1 with e1
      injection e2 with e2
      subst e0 e1 e2
      obtain⟨u3,l3,e3,r3,hw3,hb3⟩:=j1e N y3.1 hy3 k [v3] y3.2 g3
      injection e3 with e3
      subst e3
      refine⟨(z0,z1,z2,v3,l3),fun _=>⟨by simpa using c0,by simpa using c1,by simpa using c2,by simpa using c3,r3,fun hw=>hw3 ?_,?_⟩⟩
      ·rw[hDi,DataW.weights,Tryz.underlying24]at hw
       simp only[DataW.weightsEach,Qj0,Qa2,Qc6,Qj9]at hw
       exact hw.2.2.2.1
      ·rw[hDi]
       simp only[Rows.uptoBulk,Rows.uptoBulkAll]
       have hb3':2*Fl.q0p l3≤Rows.uptoBulk y3.1:=hb3
       have:=k4m y0.1
       show 2*(1+Fl.q0p l3)≤_
       omega
    ·exact⟨(0,0,0,.bool true,[]),fun h=>absurd h hi⟩
   obtain⟨q,hq⟩:=Classical.axiomOfChoice each
   let X:List Tree:=(List.range len).map fun i=>Tree.node (q i).1 (q i).2.1 (q i).2.2.1 (q i).2.2.2.2
   have hXl:X.length=len:=by simp[X]
   have hXi:∀i,i<len→X.getD i q0a=Tree.node (q i).1 (q i).2.1 (q i).2.2.1 (q i).2.2.2.2:=fun i hi=>by simp[X,List.getD,hi]
   refine⟨_,X,rfl,?_,fun hw=>?_,?_⟩
   ·by_cases h0:len=0
    ·subst h0;exact .nil _ _ _ rfl
    ·obtain⟨b,off,hab,hb⟩:=cell_spot (hq 0 (by omega)).1
     have haa:a=⟨b,off,none⟩:=by rwa [show a.add (0*4)=a from rfl]at hab
     subst haa
     have:=Rep.ls (W:=w) (G:=(gW w).G) (.trees X) b off m (fun i j=>match j with|0=>I64 (q i).1|1=>I64 (q i).2.1|2=>I64 (q i).2.2.1|_=>(q i).2.2.2.1) (by show X.length≤_;omega) (by show X.length≤_;omega) hb (fun i j hi hj=>by
      have hi':i<len:=by have:i<X.length:=hi;omega
      have hj':j<4:=hj
      obtain⟨k0,k1,k2,k3,_⟩:=hq i hi'
      rw[q5c]at k0 k1 k2 k3
      show w.cell? ⟨b,off+i*4+j,none⟩=_
      match j,hj' with
      |0,_=>simpa using k0
      |1,_=>rw[Qg5];exact k1
      |2,_=>rw[Qg5];exact k2
      |3,_=>rw[Qg5];exact k3) (fun i j hi hj=>by
      have hi':i<len:=by have:i<X.length:=hi;omega
      have hj':j<4:=hj
      obtain⟨_,_,_,_,k4,_⟩:=hq i hi'
      show Rep w _ (j5i (X.getD i q0a) j) _
      rw[hXi i hi']
      match j,hj' with
      |0,_=>exact .val _
      |1,_=>exact .val _
      |2,_=>exact .val _
      |3,_=>exact k4)
     have hl2:LD.len (.trees X)=len:=hXl
     rw[hl2]at this
     exact this
   ·rw[hd]at hw
    obtain⟨hwt,hwd⟩:=j0m Tryz.underlying22 hw
    rw[show Tryz.prog.bytesOf 24=48 by kernel_rfl]at hwt
    have h48:=of_decide_eq_true hwt
    simp only[Qa9,Qg4]at h48
    have hR:reachBytes=140737488351232:=rfl
    refine⟨by rw[hXl];omega,k5d fun i hi=>?_⟩
    have hi':i<len:=by rw[hXl]at hi;exact hi
    rw[hXi i hi']
    exact Fl.u0e.2 ((hq i hi').2.2.2.2.2.1 (hwd (D i) (hmem i hi')))
   ·rw[hd]
    simp only[Rows.uptoBulk]
    have h1:=k7g ((List.range len).map D) X (by simp[X]) (fun i hi=>by
     have hi':i<len:=by rw[hXl]at hi;exact hi
     rw[hXi i hi']
     have h2:((List.range len).map D).getD i .nil=D i:=by simp[List.getD,hi']
     rw[h2]
     simp only[Fl.q2a]
     exact(hq i hi').2.2.2.2.2.2)
    omega
end
set_option maxRecDepth 100000 in
theorem x2j {H:Type} {enc:TypeId×Value→H} {w:World} {r:Reach} {b0:Nat} {v:Value} {d:DataW H} {p:List MemPlace} (hv:Value.okWide Tryz.prog w r b0 24 v) (h:DataW.Trod enc Tryz.prog w 0 (fun _=>true) true 24 v d p):
 ∃q n k l,Den (gW w) (.agg [.int q,.int n,.int k,.trees l]) v∧((DataW.weights Tryz.prog 24 d).all (· ≤reachBytes)=true→l.length≤2932031007317∧Fl.q2b l)∧2*Fl.q0p l≤Rows.uptoBulk d:=by
 obtain⟨v0,v1,v2,v3,y0,y1,y2,y3,n,rfl,rfl,rfl,h0,h1,h2,h3⟩:=open_agg4 Tryz.underlying24 (by kernel_rfl) (by kernel_rfl) hv h
 obtain⟨z0,e0,_,_⟩:=DataW.trod_int Tryz.underlying3 h0
 obtain⟨z1,e1,_,_⟩:=DataW.trod_int Tryz.underlying3 h1
 obtain⟨z2,e2,_,_⟩:=DataW.trod_int Tryz.underlying3 h2
 injection e0 with e0
 injection e1 with e1
 injection e2 with e2
 subst e0 e1 e2
 obtain⟨u3,l3,e3,r3,hw3,hb3⟩:=j1e _ y3.1 (Qk9 _) n [v3] y3.2 h3
 injection e3 with e3
 subst e3
 refine⟨z0,z1,z2,l3,?_,fun hw=>hw3 ?_,?_⟩
 ·rw[Den]
  refine⟨[_,_,_,_],rfl,?_⟩
  simp only[q0e]
  exact⟨_,_,rfl,q0g _,_,_,rfl,q0g _,_,_,rfl,q0g _,_,_,rfl,by simp only[Den];exact r3,rfl⟩
 ·rw[DataW.weights,Tryz.underlying24]at hw
  simp only[DataW.weightsEach,Qj0,Qa2,Qc6,Qj9]at hw
  exact hw.2.2.2.1
 ·simp only[Rows.uptoBulk,Rows.uptoBulkAll];omega
end Go.Proofs.YteikjpbbhopkaaaGreatDoor.En
