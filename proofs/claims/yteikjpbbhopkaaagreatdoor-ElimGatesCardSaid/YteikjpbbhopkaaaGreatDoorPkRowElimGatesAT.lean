/- Lemmas and contracts for the row. -/
import Derived.Test.YteikjpbbhopkaaaGreatDoorPkRowElimGatesAP
import Derived.Test.YteikjpbbhopkaaaGreatDoorPkRowElimGatesAI
import Derived.Test.YteikjpbbhopkaaaGreatDoorPkRowElimGatesAJ
set_option linter.unusedVariables false
set_option linter.unusedSimpArgs false
set_option linter.unnecessarySimpa false
namespace Go.Proofs.YteikjpbbhopkaaaGreatDoor.En
open Go Go.RowKit
def z1g:List (Nat×TD):=[(3,⟨1,false,[.int .i64 0],[],none,8,false,1,1⟩),
 (27,⟨1,false,[.slice none 0 0],[],some 57,24,false,0,0⟩),
 (28,⟨1,false,[.int .i64 0],[],none,8,false,1,1⟩),
 (31,⟨1,false,[.slice none 0 0],[],some 34,24,false,0,0⟩),
 (34,⟨1,false,[.slice none 0 0],[],some 3,24,false,0,3⟩),
 (57,⟨3,true,[.slice none 0 0,.slice none 0 0,.int .i64 0],[(0,34),(1,34),(2,3)],none,56,false,0,5⟩),
 (62,⟨1,false,[.nilFunc],[],none,8,false,0,0⟩),
 (89,⟨4,true,[.slice none 0 0,.slice none 0 0,.int .i64 0,.nilFunc],[(0,57),(3,62)],none,64,false,0,0⟩),
 (90,⟨1,false,[.nilFunc],[],none,8,false,0,0⟩),
 (91,⟨1,false,[.map none],[],none,8,false,10,90⟩)]
theorem q3b:q5u Tryz.prog z1g:=⟨⟨by kernel_rfl,by kernel_rfl,by kernel_rfl⟩,⟨by kernel_rfl,by kernel_rfl,by kernel_rfl⟩,⟨by kernel_rfl,by kernel_rfl,by kernel_rfl⟩,⟨by kernel_rfl,by kernel_rfl,by kernel_rfl⟩,⟨by kernel_rfl,by kernel_rfl,by kernel_rfl⟩,⟨by kernel_rfl,by kernel_rfl,by kernel_rfl⟩,⟨by kernel_rfl,by kernel_rfl,by kernel_rfl⟩,⟨by kernel_rfl,by kernel_rfl,by kernel_rfl⟩,⟨by kernel_rfl,by kernel_rfl,by kernel_rfl⟩,⟨by kernel_rfl,by kernel_rfl,by kernel_rfl⟩,trivial⟩
def y9l:Cx:=⟨z1g,[],true⟩
theorem y6p:q1c Tryz.prog y9l:=q0s q3b trivial
def y7n:CtF
 |[.agg [.im (.ls (.ints C)),.im (.ls (.ints L)),.im (.val (.int .i64 B)),.clo 42 [.pto [.val (.int .i64 g)]]]],[]=>some (Cn.z0f C B,.tup [.int (Cn.evK C B),.bool (Cn.evB C)],[])
 |_,_=>none
theorem y6u:q0c Tryz.prog 88 y7n:=by
 refine Sw (cx:=y9l) Tryz.f88 Tryz.func88 ?_
 intro wW wO wβ G0 args os p r outs hσ hp
 have hcx:=y6p
 have hmx:Tryz.prog.follows .mixedOrders=true:=by kernel_rfl
 unfold y7n at hσ
 split at hσ
 ·
  rename_i C L B g
  cases hσ
  refine⟨by kernel_rfl,?_⟩
  have hn:=hp
  have hl:=hp.1
  have hb:=Cn.u2g hp
  refine Sz hcx [(1000,.to 601)] [1] [0] [] (Zs (Sz hcx [] [8,9,10] [] [] (Zb (Lp (X:=Nat) (fun x0=>x0≤C.length∧∀j,j<x0→C.getD j 0=C.getD 0 0) (fun x0=>([(1,.loc 601 0),(8,.ints C),(9,.int (C.length:Int)),(10,.int (x0:Int))],[(601,.box [.ints C,.ints L,.int B,.clo 42 [.pto [.int g]]])])) (fun x0=>C.length-x0) (0) ?_ (Ex 10 (congrArg AV.int (show 0=(0:Int)from(by first|rfl|omega|(simp;done)))) Eb) Hb fun i hI=>?_))))
  ·
   exact⟨Qc1 _,fun j hj=>by omega⟩
  ·
   try dsimp only at hI
   obtain⟨hk,hok⟩:=hI
   refine Sz hcx [] [11] [] [] (Zs (Zj (p:=((i:Int)<(C.length:Int))) (fun h0=>?_) fun h0=>?_))
   ·
    refine Zk (Ft (Zs (Zb (Sq hcx [] [5] [11] [] [((0:Int)≤(i:Int)∧(i:Int)<(C.length:Int))] ?_ (Sq hcx [] [20] [5] [] [((0:Int)≤0∧0<(C.length:Int))] ?_ (Zi (b:=(C.getD i 0) !=(C.getD 0 0)) (fun h1=>?_) fun h1=>?_))))))
    ·
     refine ap ?_ az
     omega
    ·
     refine ap ?_ az
     omega
    ·
     replace h1:=bne_iff_ne.1 h1
     obtain⟨e1,e2⟩:=Cn.v1c (B:=B) (by omega) h1
     exact Sz hcx [] [2,3] [20,1,8,9,10] [601] (Zr (Fk (Fr (Fr (Fk (Fr (Rv hcx (congrArg AV.tup (q0f (congrArg AV.int (show 0=(Cn.evK C B)from(by first|exact e1.symm|exact e2.symm|(rw[e1,e2];done)))) (q0f (congrArg AV.bool (show false=(Cn.evB C)from(by first|exact e1.symm|exact e2.symm|(rw[e1,e2];done)))) rfl))) [] rfl)))))))
    ·
     replace h1:=u6l h1
     have hq:=h1
     refine Zk (Fb (Ft (Tq hcx [] [10] [20] [] [Fit ((i:Int)+1)] ?_ (Lr (i+1) ?_ ?_ (Ex 10 (congrArg AV.int (show((i:Int)+1)=((i+1):Int)from(by first|rfl|omega|(simp;done)))) Eb) Hb))))
     ·
      refine ap ?_ az
      omega
     ·
      exact⟨by omega,fun j hj=>by rcases(by omega:j<i∨j=i)with h|rfl;exact hok j h;exact hq⟩
     ·
      show C.length-(i+1)<C.length-i
      omega
   ·
    refine Ze (Fe (Fe (Fs (Ft (Zs (Sz hcx [] [26] [11,8,9,10] [] (Zu (a:=(C.length:Int)) (b:=0) (fun h2=>?_) fun h2=>?_)))))))
    ·
     obtain⟨e1,e2⟩:=Cn.u6y (B:=B) h2
     exact Sz hcx [] [2,3] [26,1] [601] (Zr (Fr (Rv hcx (congrArg AV.tup (q0f (congrArg AV.int (show 0=(Cn.evK C B)from(by first|exact e1.symm|exact e2.symm|(rw[e1,e2];done)))) (q0f (congrArg AV.bool (show false=(Cn.evB C)from(by first|exact e1.symm|exact e2.symm|(rw[e1,e2];done)))) rfl))) [] rfl)))
    ·
     have h26:=h2
     obtain⟨e1,e2⟩:=Cn.u9i (B:=B) (by omega) hok h26
     obtain⟨c1,c2,c3,c4⟩:=Cn.v3e hn h26
     refine Zk (Ft (Sd hcx hmx [0,1,3,7,0,16,48,112,240,511,1023,2047,4095] [] [2,3] [26,1] [601] [Fit (B-1),((0:Int)≤0∧0<(C.length:Int)),(((C.getD 0 0):Int)≠0∧Fit ((B-1).tdiv (C.getD 0 0))),Fit (((B-1).tdiv (C.getD 0 0))+1)] ?_ (Zr (Rv hcx (congrArg AV.tup (q0f (congrArg AV.int (show(((B-1).tdiv (C.getD 0 0))+1)=(Cn.evK C B)from(by first|exact e1.symm|exact e2.symm|(rw[e1,e2];done)))) (q0f (congrArg AV.bool (show true=(Cn.evB C)from(by first|exact e1.symm|exact e2.symm|(rw[e1,e2];done)))) rfl))) [] rfl))))
     ·
      refine ap ?_ (ap ?_ (ap ?_ (ap ?_ az)))<;>
       omega
 ·
  cases hσ
def k2n:Cx:=⟨z1g,[(88,(q1j [.agg [.ld (.ints []),.ld (.ints []),.id,.id]] y7n))],true⟩
theorem x2b:q1c Tryz.prog k2n:=q0s q3b ⟨(y6u.coe [.agg [.ld (.ints []),.ld (.ints []),.id,.id]] rfl),trivial⟩
def k9l:CtF
 |[.agg [.im (.ls (.ints C)),.im (.ls (.ints L)),.im (.val (.int .i64 B)),.clo 42 [.pto [.val (.int .i64 g)]]]],[]=>some (Cn.z0f C B,.int (Cn.q2m C B),[])
 |_,_=>none
theorem x3f:q0c Tryz.prog 44 k9l:=by
 refine Sw (cx:=k2n) Tryz.f44 Tryz.func44 ?_
 intro wW wO wβ G0 args os p r outs hσ hp
 have hcx:=x2b
 have hmx:Tryz.prog.follows .mixedOrders=true:=by kernel_rfl
 unfold k9l at hσ
 split at hσ
 ·
  rename_i C L B g
  cases hσ
  refine⟨by kernel_rfl,?_⟩
  have hn:=hp
  have hl:=hp.1
  have hb:=Cn.u2g hp
  have hnk:=fun h=>Cn.v1l hn h
  have hfe:=fun h=>(Cn.j6m hn h).1
  refine Sz hcx [(1000,.to 601)] [1] [0] [] (Sq hcx [] [3,4] [] [] [(Cn.z0f C B)] ?_ (Zs (Sz hcx [] [5] [] [] (Zb (Sq hcx [] [15] [] [] [(((C.length:Int)==0)=true→(((C.length:Int)==0)=true)),(((C.length:Int)==0)=true→(((C.length:Int)==0)=true)),(((C.length:Int)==0)=true→(((C.length:Int)==0)=true)),(((C.length:Int)==0)=true→((C.length:Int)==0)=true)] ?_ (Zi (b:=((C.length:Int)==0)&&(B==0)) (fun h0=>?_) fun h0=>?_))))))
  ·
   refine ap ?_ az
   omega
  ·
   refine ap ?_ (ap ?_ (ap ?_ (ap (by exact id) az)))<;>
    exact id
  ·
   have hr:=Cn.v3q h0
   exact Sz hcx [] [2] [15,5,3,4,1] [601] (Zr (Fk (Fr (Rv hcx (congrArg AV.int (show 5=(Cn.q2m C B)from(by exact hr.symm))) [] rfl))))
  ·
   have h5_:=h0
   refine Sz hcx [] [24] [15] [] (Zu (a:=(C.length:Int)) (b:=0) (fun h1=>?_) fun h1=>?_)
   ·
    have hr:=Cn.v3o h5_ h1
    exact Sz hcx [] [2] [24,5,3,4,1] [601] (Zr (Fk (Fr (Rv hcx (congrArg AV.int (show 6=(Cn.q2m C B)from(by exact hr.symm))) [] rfl))))
   ·
    have h6_:=h1
    refine Sd hcx hmx [0,1,3,7,15,31,63,3,131,387,1023,2047,4095] [] [27] [24,1] [601] [((Cn.evB C)=true→((Cn.evB C)=true)),((Cn.evB C)=true→((Cn.evB C)=true)),((Cn.evB C)=true→((Cn.evB C)=true)),((Cn.evB C)=true→((0:Int)≤0∧0<(C.length:Int))),((Cn.evB C)=true→((Cn.evB C)=true)),((Cn.evB C)=true→((Cn.evB C)=true)),((Cn.evB C)=true→((Cn.evB C)=true)),((Cn.evB C)=true→((Cn.evB C)=true)),((Cn.evB C)=true→((Cn.evB C)=true)),((Cn.evB C)=true→(Cn.evB C)=true)] ?_ (Zi (b:=(Cn.evB C)&&((C.getD 0 0)==B)) (fun h2=>?_) fun h2=>?_)
    ·
     refine ap ?_ (ap ?_ (ap ?_ (ap ?_ (ap ?_ (ap ?_ (ap ?_ (ap ?_ (ap ?_ (ap (by exact id) az)))))))))<;>
      first|omega|exact id
    ·
     have hr:=Cn.v3a h6_ h2
     exact Sz hcx [] [2] [27,5,3,4] [] (Zr (Fk (Fr (Rv hcx (congrArg AV.int (show 1=(Cn.q2m C B)from(by exact hr.symm))) [] rfl))))
    ·
     have h1_:=h2
     refine Sq hcx [] [40] [27] [] [((Cn.evB C)=true→((Cn.evB C)=true)),((Cn.evB C)=true→(Cn.evB C)=true)] ?_ (Zi (b:=(Cn.evB C)&&(decide ((C.length:Int)≤10))) (fun h3=>?_) fun h3=>?_)
     ·
      refine ap ?_ (ap (by exact id) az)
      exact id
     ·
      have hr:=Cn.v3r h6_ h1_ h3
      exact Sz hcx [] [2] [40,5,3,4] [] (Zr (Fk (Fr (Rv hcx (congrArg AV.int (show 2=(Cn.q2m C B)from(by exact hr.symm))) [] rfl))))
     ·
      have h2_:=h3
      refine Sq hcx [] [46] [40,5,3,4] [] [((Cn.evB C)=true→((Cn.evB C)=true)),((Cn.evB C)=true→((Cn.evB C)=true)),((Cn.evB C)=true→Fit ((C.length:Int)*(Cn.evK C B))),((Cn.evB C)=true→((Cn.evB C)=true)),((Cn.evB C)=true→(Cn.evB C)=true)] ?_ (Zi (b:=(Cn.evB C)&&(decide (((C.length:Int)*(Cn.evK C B))≤400))) (fun h4=>?_) fun h4=>?_)
      ·
       refine ap ?_ (ap ?_ (ap ?_ (ap ?_ (ap (by exact id) az))))<;>
        first|exact id|(intro h8;have h9:=hnk h8;constructor<;>omega)
      ·
       have hr:=Cn.v3g h6_ h1_ h2_ h4
       exact Sz hcx [] [2] [46] [] (Zr (Fk (Fr (Rv hcx (congrArg AV.int (show 3=(Cn.q2m C B)from(by exact hr.symm))) [] rfl))))
      ·
       have hr:=Cn.v3w h6_ h1_ h2_ h4
       exact Zk (Fb (Ft (Sz hcx [] [2] [46] [] (Zr (Rv hcx (congrArg AV.int (show 4=(Cn.q2m C B)from(by exact hr.symm))) [] rfl)))))
 ·
  cases hσ
def k3t:Cx:=⟨z1g,[],true⟩
theorem x4l:q1c Tryz.prog k3t:=q0s q3b trivial
def y0v:CtF
 |[.im (.ls (.intss c)),.pto [.val (.int .i64 g)]],[]=>some (c.length≤1000000000∧(∀l∈c,l.length≤1000000000)∧-65537≤g∧g≤65537,.row 0,[some (.row 34 (.intss (Cn.grd g c)))])
 |_,_=>none
theorem z4b:q0c Tryz.prog 42 y0v:=by
 refine Sw (cx:=k3t) Tryz.f42 Tryz.func42 ?_
 intro wW wO wβ G0 args os p r outs hσ hp
 have hcx:=x4l
 unfold y0v at hσ
 split at hσ
 ·
  rename_i c g
  cases hσ
  refine⟨by kernel_rfl,?_⟩
  obtain⟨hm1,hm2,hg1,hg2⟩:=hp
  have hb:=fun i (h:i<c.length)=>hm2 _ (Cn.q0t (d:=([]:List Int)) (k:=i) h)
  refine Sz hcx [] [3] [] [] (Zs (Sz hcx [] [7,8,9] [0] [] (Zb (Zw 3 700 34 (.intss []) (Lp (X:=Nat) (fun x0=>x0≤c.length) (fun x0=>([(1,.pto [.int g]),(3,.row 700),(7,.intss c),(8,.int (c.length:Int)),(9,.int (x0:Int))],[(700,.row 34 (.intss (Cn.grd g (c.take x0))))])) (fun x0=>c.length-x0) (0) ?_ (Ex 9 (congrArg AV.int (show 0=(0:Int)from(by first|rfl|omega|(simp;done)))) Eb) Hb fun i hI=>?_)))))
  ·
   show 0≤c.length
   omega
  ·
   replace hI:i≤c.length:=hI
   have hbi:=hb i
   have hgl:=Cn.u7p g c i
   refine Sz hcx [] [10] [] [] (Zs (Zj (p:=((i:Int)<(c.length:Int))) (fun h0=>?_) fun h0=>?_))
   ·
    refine Zk (Ft (Zs (Zb (Sq hcx [] [5] [10] [] [((0:Int)≤(i:Int)∧(i:Int)<(c.length:Int))] ?_ (Sq hcx [(1003,.to 216)] [6] [] [] [Fit (((c.getD i []).length:Int)+1),((0:Int)≤0∧0≤((((c.getD i []).length:Int)+1):Int)∧(((c.getD i []).length)+1)*8≤140737488355328)] ?_ (Zs (Sz hcx [] [18] [] [] (Zx (a:=g) (b:=0) (fun h1=>?_) fun h1=>?_))))))))
    ·
     refine ap ?_ az
     omega
    ·
     refine ap ?_ (ap ?_ az)<;>
      omega
    ·
     have h18:=h1
     refine Tq hcx [(1004,.to 216)] [6] [18] [216] [Fit (-g),((([]:List Int).length+[(-g)].length)*8≤140737488355328)] ?_ (Ft (Tq hcx [(1005,.to 700)] [3] [6,5] [216,700] [((([]++[(-g)]).length+(c.getD i []).length)*8≤140737488355328),(((Cn.grd g (c.take i)).length+[(([]++[(-g)])++(c.getD i []))].length)*24≤140737488355328)] ?_ (Fb (Ft (Tq hcx [] [9] [] [] [Fit ((i:Int)+1)] ?_ (Lr (i+1) ?_ ?_ (Ex 9 (congrArg AV.int (show((i:Int)+1)=((i+1):Int)from(by first|rfl|omega|(simp;done)))) Eb) (Hx 700 (congrArg (fun x=>q0d.row 34 (.intss x)) (show((Cn.grd g (c.take i))++[(([]++[(-g)])++(c.getD i []))])=(Cn.grd g (c.take (i+1)))from(by first|exact Cn.v1y (by omega) h18|exact Cn.v1z (by omega) h18))) Hb)))))))
     ·
      refine ap ?_ (ap ?_ az)<;>
       first|omega|(simp only[Qa8,Qb5,Qa3,Qa9,Qb6,Qb1];omega)
     ·
      refine ap ?_ (ap ?_ az)<;>
       (simp only[Qa8,Qb5,Qa3,Qa9,Qb6,Qb1];omega)
     ·
      refine ap ?_ az
      omega
     ·
      show(i+1)≤c.length
      omega
     ·
      show c.length-(i+1)<c.length-i
      omega
    ·
     have h18:=h1
     refine Zk (Ft (Tq hcx [(1005,.to 700)] [3] [18,6,5] [216,700] [((([]:List Int).length+(c.getD i []).length)*8≤140737488355328),(((Cn.grd g (c.take i)).length+[([]++(c.getD i []))].length)*24≤140737488355328)] ?_ (Fb (Ft (Tq hcx [] [9] [] [] [Fit ((i:Int)+1)] ?_ (Lr (i+1) ?_ ?_ (Ex 9 (congrArg AV.int (show((i:Int)+1)=((i+1):Int)from(by first|rfl|omega|(simp;done)))) Eb) (Hx 700 (congrArg (fun x=>q0d.row 34 (.intss x)) (show((Cn.grd g (c.take i))++[([]++(c.getD i []))])=(Cn.grd g (c.take (i+1)))from(by first|exact Cn.v1y (by omega) h18|exact Cn.v1z (by omega) h18))) Hb)))))))
     ·
      refine ap ?_ (ap ?_ az)<;>
       (simp only[Qa8,Qb5,Qa3,Qa9,Qb6,Qb1];omega)
     ·
      refine ap ?_ az
      omega
     ·
      show(i+1)≤c.length
      omega
     ·
      show c.length-(i+1)<c.length-i
      omega
   ·
    exact Ze (Fe (Fe (Fs (Ft (Sz hcx [] [3] [10,1,7,8,9] [] (Zr (Fn [(700,.to 0)] [3] (Rv hcx rfl [true] (q1g (congrArg some (congrArg (fun x=>q0d.row 34 (.intss x)) (show(Cn.grd g (c.take i))=(Cn.grd g c)from(by(rw[show i=c.length by omega,Qd3]))))) rfl)))))))))
 ·
  cases hσ
def j2e:Cx:=⟨z1g,[(42,(q1j [.ld (.intss []),.id] y0v))],true⟩
theorem j6q:q1c Tryz.prog j2e:=q0s q3b ⟨(z4b.coe [.ld (.intss []),.id] rfl),trivial⟩
def z8q:CtF
 |[.agg [.im (.ls (.ints C)),.im (.ls (.ints L)),.im (.val (.int .i64 B)),.clo 42 [.pto [.val (.int .i64 g)]]],.im (.val (.int .i64 next))],[]=>some (L.length≤1000000∧-65537≤g∧g≤65537,.tup [.row 0,.int next,.int 0],[some (.row 34 (.intss (Cn.grd g [L])))])
 |_,_=>none
theorem j4u:q0c Tryz.prog 82 z8q:=by
 refine Sw (cx:=j2e) Tryz.f82 Tryz.func82 ?_
 intro wW wO wβ G0 args os p r outs hσ hp
 have hcx:=j6q
 unfold z8q at hσ
 split at hσ
 ·
  rename_i C L B g next
  cases hσ
  refine⟨by kernel_rfl,?_⟩
  obtain⟨hm1,hg1,hg2⟩:=hp
  refine Sz hcx [(1000,.to 602)] [2] [0] [] (Sq hcx [(1006,.to 213)] [4,5,6] [2,1] [602] [([L].length≤1000000000∧(∀l∈[L],l.length≤1000000000)∧-65537≤g∧g≤65537)] ?_ (Zr (Fn [(213,.to 0)] [4,5,6] (Ru hcx [true]))))
  ·
   refine ap ?_ az
   exact⟨by show(1:Nat)≤1000000000;decide,fun x hx=>by rw[List.mem_singleton.1 hx];first|omega|exact Qc1 _,hg1,hg2⟩
 ·
  cases hσ
def z9m:Cx:=⟨z1g,[],true⟩
theorem j0l:q1c Tryz.prog z9m:=q0s q3b trivial
def z3s:CtF
 |[.agg [.im (.ls (.ints C)),.im (.ls (.ints L)),.im (.val (.int .i64 B)),.clo 42 [.pto [.val (.int .i64 g)]]],.im (.val (.int .i64 next))],[]=>some (True,.tup [.im (.val (.slice none 0 0)),.int next,.int 0],[])
 |_,_=>none
theorem j0n:q0c Tryz.prog 86 z3s:=by
 refine Sw (cx:=z9m) Tryz.f86 Tryz.func86 ?_
 intro wW wO wβ G0 args os p r outs hσ hp
 have hcx:=j0l
 unfold z3s at hσ
 split at hσ
 ·
  rename_i C L B g next
  cases hσ
  refine⟨by kernel_rfl,?_⟩
  exact Sz hcx [] [] [0] [] (Sz hcx [] [4,5,6] [1] [] (Zr (Ru hcx [])))
 ·
  cases hσ
def j8k:Cx:=⟨z1g,[(42,(q1j [.ld (.intss []),.id] y0v))],true⟩
theorem y1w:q1c Tryz.prog j8k:=q0s q3b ⟨(z4b.coe [.ld (.intss []),.id] rfl),trivial⟩
def j5u:CtF
 |[.agg [.im (.ls (.ints C)),.im (.ls (.ints L)),.im (.val (.int .i64 B)),.clo 42 [.pto [.val (.int .i64 g)]]],.im (.val (.int .i64 next))],[]=>some (-65537≤g∧g≤65537,.tup [.row 0,.int next,.int 0],[some (.row 34 (.intss (Cn.grd g [[]])))])
 |_,_=>none
theorem y0j:q0c Tryz.prog 87 j5u:=by
 refine Sw (cx:=j8k) Tryz.f87 Tryz.func87 ?_
 intro wW wO wβ G0 args os p r outs hσ hp
 have hcx:=y1w
 unfold j5u at hσ
 split at hσ
 ·
  rename_i C L B g next
  cases hσ
  refine⟨by kernel_rfl,?_⟩
  obtain⟨hg1,hg2⟩:=hp
  refine Sz hcx [(1000,.to 602)] [2] [0] [] (Sq hcx [(1004,.to 211)] [4,5,6] [2,1] [602] [(([[]]:List (List Int)).length≤1000000000∧(∀l∈([[]]:List (List Int)),l.length≤1000000000)∧-65537≤g∧g≤65537)] ?_ (Zr (Fn [(211,.to 0)] [4,5,6] (Rv hcx rfl [true] (q1g (congrArg some (congrArg (fun x=>q0d.row 34 (.intss x)) (show(Cn.grd g ([[]]:List (List Int)))=(Cn.grd g [[]])from(by first|rfl|(simp;done))))) rfl)))))
  ·
   refine ap ?_ az
   exact⟨by show(1:Nat)≤1000000000;decide,fun x hx=>by rw[List.mem_singleton.1 hx];first|omega|exact Qc1 _,hg1,hg2⟩
 ·
  cases hσ
def x5q:Cx:=⟨z1g,[(42,(q1j [.ld (.intss []),.id] y0v)),(110,(q1j [.ld (.ints []),.ld (.ints []),.id] x6w)),(111,(q1j [.ld (.ints []),.id] j6j.up))],true⟩
theorem x5e:q1c Tryz.prog x5q:=q0s q3b ⟨(z4b.coe [.ld (.intss []),.id] rfl),(x3g.coe [.ld (.ints []),.ld (.ints []),.id] rfl),(y2a.up.coe [.ld (.ints []),.id] rfl),trivial⟩
def k1n:CtF
 |[.agg [.im (.ls (.ints C)),.im (.ls (.ints L)),.im (.val (.int .i64 B)),.clo 42 [.pto [.val (.int .i64 g)]]],.im (.val (.int .i64 next))],[]=>some (C.length≤4096∧L.length=C.length∧-65537≤g∧g≤65537,.tup [.intss ((Cn.z8w C L B g next).1),.int ((Cn.z8w C L B g next).2.1),.int ((Cn.z8w C L B g next).2.2)],[])
 |_,_=>none
theorem x2x:q0c Tryz.prog 85 k1n:=by
 refine Sw (cx:=x5q) Tryz.f85 Tryz.func85 ?_
 intro wW wO wβ G0 args os p r outs hσ hp
 have hcx:=x5e
 unfold k1n at hσ
 split at hσ
 ·
  rename_i C L B g next
  cases hσ
  refine⟨by kernel_rfl,?_⟩
  obtain⟨hl,hLC,hg1,hg2⟩:=hp
  have hsl:=Cn.z5r C L next
  have hll:=Cn.z0b (Cn.q2l C L next).1 B
  refine Sz hcx [(1000,.to 602)] [2] [0] [] (Sq hcx [(1007,.to 220)] [7,8,9,10] [1] [] [(C.length≤1000000000∧L.length≤1000000000)] ?_ (Zs (Sz hcx [] [26] [] [] (Zx (a:=((Cn.q2l C L next).2.2.2)) (b:=0) (fun h0=>?_) fun h0=>?_))))
  ·
   refine ap ?_ az
   omega
  ·
   have hr:=Cn.j1n (B:=B) (g:=g) h0
   exact Sz hcx [] [4,5,6] [26,7,8,9,10,2] [220,602] (Zr (Fr (Fp 4 (.intss []) (Rv hcx (congrArg AV.tup (q0f (congrArg AV.intss (show[]=(Cn.z8w C L B g next).1 from(by first|(rw[hr];done)|(rw[hr];exact h1_)))) (q0f (congrArg AV.int (show 0=(Cn.z8w C L B g next).2.1 from(by first|(rw[hr];done)|(rw[hr];exact h1_)))) (q0f (congrArg AV.int (show(Cn.q2l C L next).2.2.2=(Cn.z8w C L B g next).2.2 from(by first|(rw[hr];done)|(rw[hr];exact h1_)))) rfl)))) [] rfl))))
  ·
   have h0:(Cn.q2l C L next).2.2.2=0:=by have:=h0;omega
   refine Zk (Ft (Sq hcx [] [10,11] [26,7] [] [(((Cn.q2l C L next).1).length≤1000000000)] ?_ (Zs (Sz hcx [] [37] [] [] (Zx (a:=((Cn.q1o ((Cn.q2l C L next).1) B).2)) (b:=0) (fun h1=>?_) fun h1=>?_)))))
   ·
    refine ap ?_ az
    omega
   ·
    have hr:=Cn.z3x (g:=g) h0 h1
    exact Sz hcx [] [4,5,6] [37,10,11,8,9,2] [220,602] (Zr (Fr (Fp 4 (.intss []) (Rv hcx (congrArg AV.tup (q0f (congrArg AV.intss (show[]=(Cn.z8w C L B g next).1 from(by first|(rw[hr];done)|(rw[hr];exact h1_)))) (q0f (congrArg AV.int (show 0=(Cn.z8w C L B g next).2.1 from(by first|(rw[hr];done)|(rw[hr];exact h1_)))) (q0f (congrArg AV.int (show(Cn.q1o ((Cn.q2l C L next).1) B).2=(Cn.z8w C L B g next).2.2 from(by first|(rw[hr];done)|(rw[hr];exact h1_)))) rfl)))) [] rfl))))
   ·
    have h1_:(Cn.q1o (Cn.q2l C L next).1 B).2=0:=by have:=h1;omega
    have hr:=Cn.x2n (g:=g) h0 h1_
    refine Zk (Ft (Sq hcx [(1005,.to 220)] [4,5,6] [37,10,11,8,9,2] [220,602] [(((Cn.q1o ((Cn.q2l C L next).1) B).1).length≤1000000000∧(∀l∈((Cn.q1o ((Cn.q2l C L next).1) B).1),l.length≤1000000000)∧-65537≤g∧g≤65537),((((Cn.q2l C L next).2.1).length+(Cn.grd g ((Cn.q1o ((Cn.q2l C L next).1) B).1)).length)*24≤140737488355328)] ?_ (Zr (Fn [(220,.frz)] [4,5,6] (Rv hcx (congrArg AV.tup (q0f (congrArg AV.intss (show(((Cn.q2l C L next).2.1)++(Cn.grd g ((Cn.q1o ((Cn.q2l C L next).1) B).1)))=(Cn.z8w C L B g next).1 from(by first|(rw[hr];done)|(rw[hr];exact h1_)))) (q0f (congrArg AV.int (show(Cn.q2l C L next).2.2.1=(Cn.z8w C L B g next).2.1 from(by first|(rw[hr];done)|(rw[hr];exact h1_)))) (q0f (congrArg AV.int (show(Cn.q1o ((Cn.q2l C L next).1) B).2=(Cn.z8w C L B g next).2.2 from(by first|(rw[hr];done)|(rw[hr];exact h1_)))) rfl)))) [] rfl)))))
    ·
     refine ap ?_ (ap ?_ az)<;>
      first|exact⟨by omega,fun x hx=>by have:=hll.2 x hx;omega,hg1,hg2⟩|(rw[Cn.z7q];omega)
 ·
  cases hσ
def x1x:Cx:=⟨z1g,[],true⟩
theorem y6s:q1c Tryz.prog x1x:=q0s q3b trivial
def z3l:CtF
 |[],[]=>some (True,.row 0,[some (.mfun [1,2,3,4,5,6] [.clo 82 [],.clo 83 [],.clo 84 [],.clo 85 [],.clo 86 [],.clo 87 []])])
 |_,_=>none
theorem q7t:q0c Tryz.prog 43 z3l:=by
 refine Sw (cx:=x1x) Tryz.f43 Tryz.func43 ?_
 intro wW wO wβ G0 args os p r outs hσ hp
 have hcx:=y6s
 unfold z3l at hσ
 split at hσ
 ·
  cases hσ
  refine⟨by kernel_rfl,?_⟩
  exact Sz hcx [] [] [] [] (Sz hcx [(1000,.to 201)] [0] [] [] (Zr (Fn [(201,.to 0)] [0] (Ru hcx [true]))))
 ·
  cases hσ
def z4f (k:Int):CtF
 |[.agg [.im (.ls (.ints C)),.im (.ls (.ints L)),.im (.val (.int .i64 B)),.clo 42 [.pto [.val (.int .i64 g)]]]],[]=>some (Cn.z0f C B∧Cn.q2m C B=k,.int k,[])
 |_,_=>none
theorem q6y (k:Int):q0c Tryz.prog 44 (z4f k):=x3f.weak fun args os p r outs h=>by
 unfold z4f at h
 split at h
 ·simp only[Option.some.injEq,Prod.mk.injEq]at h
  obtain⟨rfl,rfl,rfl⟩:=h
  exact⟨_,_,rfl,fun hp=>⟨hp.1,by rw[hp.2]⟩⟩
 ·cases h
def v2s:Cx:=⟨z1g,[(44,(q1j [.agg [.ld (.ints []),.ld (.ints []),.id,.id]] (z4f 1))),(82,(q1j [.agg [.ld (.ints []),.ld (.ints []),.id,.id],.id] z8q)),(43,z3l)],true⟩
theorem u3c:q1c Tryz.prog v2s:=q0s q3b ⟨((q6y 1).coe [.agg [.ld (.ints []),.ld (.ints []),.id,.id]] rfl),(j4u.coe [.agg [.ld (.ints []),.ld (.ints []),.id,.id],.id] rfl),q7t,trivial⟩
def v2v:Cx:=⟨z1g,[(44,(q1j [.agg [.ld (.ints []),.ld (.ints []),.id,.id]] (z4f 4))),(85,(q1j [.agg [.ld (.ints []),.ld (.ints []),.id,.id],.id] k1n)),(43,z3l)],true⟩
theorem u6c:q1c Tryz.prog v2v:=q0s q3b ⟨((q6y 4).coe [.agg [.ld (.ints []),.ld (.ints []),.id,.id]] rfl),(x2x.coe [.agg [.ld (.ints []),.ld (.ints []),.id,.id],.id] rfl),q7t,trivial⟩
def v2p:Cx:=⟨z1g,[(44,(q1j [.agg [.ld (.ints []),.ld (.ints []),.id,.id]] (z4f 5))),(86,(q1j [.agg [.ld (.ints []),.ld (.ints []),.id,.id],.id] z3s)),(43,z3l)],true⟩
theorem u5g:q1c Tryz.prog v2p:=q0s q3b ⟨((q6y 5).coe [.agg [.ld (.ints []),.ld (.ints []),.id,.id]] rfl),(j0n.coe [.agg [.ld (.ints []),.ld (.ints []),.id,.id],.id] rfl),q7t,trivial⟩
def v2w:Cx:=⟨z1g,[(44,(q1j [.agg [.ld (.ints []),.ld (.ints []),.id,.id]] (z4f 6))),(87,(q1j [.agg [.ld (.ints []),.ld (.ints []),.id,.id],.id] j5u)),(43,z3l)],true⟩
theorem u5h:q1c Tryz.prog v2w:=q0s q3b ⟨((q6y 6).coe [.agg [.ld (.ints []),.ld (.ints []),.id,.id]] rfl),(y0j.coe [.agg [.ld (.ints []),.ld (.ints []),.id,.id],.id] rfl),q7t,trivial⟩
def k0x:Cx:=⟨z1g,[(40,(q1j [.agg [.ld (.ints []),.ld (.ints []),.id],.id] j4d.up)),(41,(q1j [.agg [.ld (.ints []),.ld (.ints []),.id]] y3n.up))],true⟩
theorem x2z:q1c Tryz.prog k0x:=q0s q3b ⟨(y1g.up.coe [.agg [.ld (.ints []),.ld (.ints []),.id],.id] rfl),(y5e.up.coe [.agg [.ld (.ints []),.ld (.ints []),.id]] rfl),trivial⟩
def k3h:CtF
 |[.agg [.im (.ls (.ints C)),.im (.ls (.ints L)),.im (.val (.int .i64 B))],.im (.val (.int .i64 g)),.im (.val (.int .i64 next))],[]=>some (Fit g∧Fit next∧(q0o ⟨C,L,B⟩ (next-1)=0→Cn.q2m (q0j ⟨C,L,B⟩).C (q0j ⟨C,L,B⟩).B≠2∧Cn.q2m (q0j ⟨C,L,B⟩).C (q0j ⟨C,L,B⟩).B≠3),.tup [.intss ((Cn.q3j C L B g next).1),.int ((Cn.q3j C L B g next).2.1),.int ((Cn.q3j C L B g next).2.2)],[])
 |_,_=>none
theorem x4z:q0c Tryz.prog 17 k3h:=by
 refine Sw (cx:=k0x) Tryz.f17 Tryz.func17 ?_
 intro wW wO wβ G0 args os p r outs hσ hp
 have hcx:=x2z
 have hmx:Tryz.prog.follows .mixedOrders=true:=by kernel_rfl
 unfold k3h at hσ
 split at hσ
 ·
  rename_i C L B g next
  cases hσ
  refine⟨by kernel_rfl,?_⟩
  obtain⟨hf1,hf2,hw23⟩:=hp
  refine Sz hcx [(1000,.frz),(1001,.frz)] [3,4] [0,1] [] (Zs (Sq hcx [] [15] [] [] [((!(decide (next<1)))=true→((!(decide (next<1)))=true)),((decide (next<1))=false→(!(decide (next<1)))=true)] ?_ (Zi (b:=(decide (next<1))||(decide (next>65537))) (fun h0=>?_) fun h0=>?_)))
  ·
   refine ap ?_ (ap (by exact q2j) az)
   exact id
  ·
   have hr:=Cn.j9j (C:=C) (L:=L) (B:=B) (g:=g) (Cn.v0x.1 h0)
   exact Sz hcx [] [6,7,8] [15,3,4,2] [] (Zr (Fr (Fp 6 (.intss []) (Rv hcx (congrArg AV.tup (q0f (congrArg AV.intss (show[]=(Cn.q3j C L B g next).1 from(by first|(rw[hr];done)|(rw[hr,Cn.z4v hk];done)|(rw[hr,Cn.es_2 hk];done)|(rw[hr,Cn.es_3 hk];done)|(rw[hr,Cn.z4j hk];done)|(rw[hr,Cn.z5k hk];done)|(rw[hr,Cn.z5c hk];done)))) (q0f (congrArg AV.int (show 0=(Cn.q3j C L B g next).2.1 from(by first|(rw[hr];done)|(rw[hr,Cn.z4v hk];done)|(rw[hr,Cn.es_2 hk];done)|(rw[hr,Cn.es_3 hk];done)|(rw[hr,Cn.z4j hk];done)|(rw[hr,Cn.z5k hk];done)|(rw[hr,Cn.z5c hk];done)))) (q0f (congrArg AV.int (show 1=(Cn.q3j C L B g next).2.2 from(by first|(rw[hr];done)|(rw[hr,Cn.z4v hk];done)|(rw[hr,Cn.es_2 hk];done)|(rw[hr,Cn.es_3 hk];done)|(rw[hr,Cn.z4j hk];done)|(rw[hr,Cn.z5k hk];done)|(rw[hr,Cn.z5c hk];done)))) rfl)))) [] rfl))))
  ·
   have h15_:=Cn.u8r h0
   refine Zk (Ft (Zs (Sq hcx [] [8] [15] [] [Fit (next-1),(True)] ?_ (Sz hcx [] [21] [] [] (Zx (a:=(q0o ⟨C,L,B⟩ (next-1))) (b:=0) (fun h1=>?_) fun h1=>?_)))))
   ·
    refine ap ?_ (ap ?_ az)<;>
     first|omega|exact True.intro
   ·
    have hr:=Cn.y7t (g:=g) h15_ h1
    exact Sz hcx [] [6,7,8] [21,3,4,2] [] (Zr (Fr (Fp 6 (.intss []) (Rv hcx (congrArg AV.tup (q0f (congrArg AV.intss (show[]=(Cn.q3j C L B g next).1 from(by first|(rw[hr];done)|(rw[hr,Cn.z4v hk];done)|(rw[hr,Cn.es_2 hk];done)|(rw[hr,Cn.es_3 hk];done)|(rw[hr,Cn.z4j hk];done)|(rw[hr,Cn.z5k hk];done)|(rw[hr,Cn.z5c hk];done)))) (q0f (congrArg AV.int (show 0=(Cn.q3j C L B g next).2.1 from(by first|(rw[hr];done)|(rw[hr,Cn.z4v hk];done)|(rw[hr,Cn.es_2 hk];done)|(rw[hr,Cn.es_3 hk];done)|(rw[hr,Cn.z4j hk];done)|(rw[hr,Cn.z5k hk];done)|(rw[hr,Cn.z5c hk];done)))) (q0f (congrArg AV.int (show q0o ⟨C,L,B⟩ (next-1)=(Cn.q3j C L B g next).2.2 from(by first|(rw[hr];done)|(rw[hr,Cn.z4v hk];done)|(rw[hr,Cn.es_2 hk];done)|(rw[hr,Cn.es_3 hk];done)|(rw[hr,Cn.z4j hk];done)|(rw[hr,Cn.z5k hk];done)|(rw[hr,Cn.z5c hk];done)))) rfl)))) [] rfl))))
   ·
    have h21_:q0o ⟨C,L,B⟩ (next-1)=0:=by have:=h1;omega
    obtain⟨n1,n2,n3⟩:=Cn.y3u h21_
    refine Zk (Ft (Zs (Sq hcx [] [31] [21,8] [] [((!(decide (g≥next)))=true→((!(decide (g≥next)))=true)),((!(decide (g≥next)))=true→Fit (-next)),((!(decide (g≥next)))=true→((!(decide (g≥next)))=true)),((!(decide (g≥next)))=true→((!(decide (g≥next)))=true)),((decide (g≥next))=false→(!(decide (g≥next)))=true)] ?_ (Zi (b:=(decide (g≥next))||(decide (g≤(-next)))) (fun h2=>?_) fun h2=>?_))))
    ·
     refine ap ?_ (ap ?_ (ap ?_ (ap ?_ (ap (by exact q2j) az))))<;>
      first|omega|exact id
    ·
     have hr:=Cn.y9o h15_ h21_ (Cn.v2b.1 h2)
     exact Sz hcx [] [6,7,8] [31,3,4,2] [] (Zr (Fr (Fp 6 (.intss []) (Rv hcx (congrArg AV.tup (q0f (congrArg AV.intss (show[]=(Cn.q3j C L B g next).1 from(by first|(rw[hr];done)|(rw[hr,Cn.z4v hk];done)|(rw[hr,Cn.es_2 hk];done)|(rw[hr,Cn.es_3 hk];done)|(rw[hr,Cn.z4j hk];done)|(rw[hr,Cn.z5k hk];done)|(rw[hr,Cn.z5c hk];done)))) (q0f (congrArg AV.int (show 0=(Cn.q3j C L B g next).2.1 from(by first|(rw[hr];done)|(rw[hr,Cn.z4v hk];done)|(rw[hr,Cn.es_2 hk];done)|(rw[hr,Cn.es_3 hk];done)|(rw[hr,Cn.z4j hk];done)|(rw[hr,Cn.z5k hk];done)|(rw[hr,Cn.z5c hk];done)))) (q0f (congrArg AV.int (show 140=(Cn.q3j C L B g next).2.2 from(by first|(rw[hr];done)|(rw[hr,Cn.z4v hk];done)|(rw[hr,Cn.es_2 hk];done)|(rw[hr,Cn.es_3 hk];done)|(rw[hr,Cn.z4j hk];done)|(rw[hr,Cn.z5k hk];done)|(rw[hr,Cn.z5c hk];done)))) rfl)))) [] rfl))))
    ·
     have h31_:=Cn.v1e h2
     have hr:=Cn.y5i h15_ h21_ h31_
     refine Zk (Ft (Sq hcx [(1004,.to 609)] [9] [31,3,4] [] [(True)] ?_ (Zs ?_)))
     ·
      refine ap ?_ az
      exact True.intro
     rcases((Cn.z0d (hw23 h21_)):Cn.q2m (q0j ⟨C,L,B⟩).C (q0j ⟨C,L,B⟩).B=1∨Cn.q2m (q0j ⟨C,L,B⟩).C (q0j ⟨C,L,B⟩).B=4∨Cn.q2m (q0j ⟨C,L,B⟩).C (q0j ⟨C,L,B⟩).B=5∨Cn.q2m (q0j ⟨C,L,B⟩).C (q0j ⟨C,L,B⟩).B=6)with hk|hk|hk|hk
     ·
      refine Tcd v2s u3c hmx [0,0,3,7,0,0,63,127,127,127,1023,2047,4095] [(1006,.to 242)] [6,7,8] [9,2] [609] [(True),(Cn.z0f ((q0j ⟨C,L,B⟩).C) ((q0j ⟨C,L,B⟩).B)∧Cn.q2m ((q0j ⟨C,L,B⟩).C) ((q0j ⟨C,L,B⟩).B)=1),(((q0j ⟨C,L,B⟩).L).length≤1000000∧-65537≤g∧g≤65537)] ?_ ?_
      ·
       refine ap ?_ (ap ?_ (ap ?_ az))<;>
        first|exact True.intro|exact⟨n1,hk⟩|exact⟨by have:=n1.1;omega,by omega,by omega⟩
      exact Ft (Zr (Fn [(242,.frz)] [6,7,8] (Rv hcx (congrArg AV.tup (q0f (congrArg AV.intss (show(Cn.grd g [((q0j ⟨C,L,B⟩).L)])=(Cn.q3j C L B g next).1 from(by first|(rw[hr];done)|(rw[hr,Cn.z4v hk];done)|(rw[hr,Cn.es_2 hk];done)|(rw[hr,Cn.es_3 hk];done)|(rw[hr,Cn.z4j hk];done)|(rw[hr,Cn.z5k hk];done)|(rw[hr,Cn.z5c hk];done)))) (q0f (congrArg AV.int (show next=(Cn.q3j C L B g next).2.1 from(by first|(rw[hr];done)|(rw[hr,Cn.z4v hk];done)|(rw[hr,Cn.es_2 hk];done)|(rw[hr,Cn.es_3 hk];done)|(rw[hr,Cn.z4j hk];done)|(rw[hr,Cn.z5k hk];done)|(rw[hr,Cn.z5c hk];done)))) (q0f (congrArg AV.int (show 0=(Cn.q3j C L B g next).2.2 from(by first|(rw[hr];done)|(rw[hr,Cn.z4v hk];done)|(rw[hr,Cn.es_2 hk];done)|(rw[hr,Cn.es_3 hk];done)|(rw[hr,Cn.z4j hk];done)|(rw[hr,Cn.z5k hk];done)|(rw[hr,Cn.z5c hk];done)))) rfl)))) [] rfl)))
     ·
      refine Tcd v2v u6c hmx [0,0,3,7,0,0,63,127,127,127,1023,2047,4095] [] [6,7,8] [9,2] [609] [(True),(Cn.z0f ((q0j ⟨C,L,B⟩).C) ((q0j ⟨C,L,B⟩).B)∧Cn.q2m ((q0j ⟨C,L,B⟩).C) ((q0j ⟨C,L,B⟩).B)=4),(((q0j ⟨C,L,B⟩).C).length≤4096∧((q0j ⟨C,L,B⟩).L).length=((q0j ⟨C,L,B⟩).C).length∧-65537≤g∧g≤65537)] ?_ ?_
      ·
       refine ap ?_ (ap ?_ (ap ?_ az))<;>
        first|exact True.intro|exact⟨n1,hk⟩|exact⟨n1.1,n2,by omega,by omega⟩
      exact Ft (Zr (Rv hcx (congrArg AV.tup (q0f (congrArg AV.intss (show(Cn.z8w ((q0j ⟨C,L,B⟩).C) ((q0j ⟨C,L,B⟩).L) ((q0j ⟨C,L,B⟩).B) g next).1=(Cn.q3j C L B g next).1 from(by first|(rw[hr];done)|(rw[hr,Cn.z4v hk];done)|(rw[hr,Cn.es_2 hk];done)|(rw[hr,Cn.es_3 hk];done)|(rw[hr,Cn.z4j hk];done)|(rw[hr,Cn.z5k hk];done)|(rw[hr,Cn.z5c hk];done)))) (q0f (congrArg AV.int (show(Cn.z8w ((q0j ⟨C,L,B⟩).C) ((q0j ⟨C,L,B⟩).L) ((q0j ⟨C,L,B⟩).B) g next).2.1=(Cn.q3j C L B g next).2.1 from(by first|(rw[hr];done)|(rw[hr,Cn.z4v hk];done)|(rw[hr,Cn.es_2 hk];done)|(rw[hr,Cn.es_3 hk];done)|(rw[hr,Cn.z4j hk];done)|(rw[hr,Cn.z5k hk];done)|(rw[hr,Cn.z5c hk];done)))) (q0f (congrArg AV.int (show(Cn.z8w ((q0j ⟨C,L,B⟩).C) ((q0j ⟨C,L,B⟩).L) ((q0j ⟨C,L,B⟩).B) g next).2.2=(Cn.q3j C L B g next).2.2 from(by first|(rw[hr];done)|(rw[hr,Cn.z4v hk];done)|(rw[hr,Cn.es_2 hk];done)|(rw[hr,Cn.es_3 hk];done)|(rw[hr,Cn.z4j hk];done)|(rw[hr,Cn.z5k hk];done)|(rw[hr,Cn.z5c hk];done)))) rfl)))) [] rfl))
     ·
      refine Tcd v2p u5g hmx [0,0,3,7,0,0,63,127,127,127,1023,2047,4095] [] [6,7,8] [9,2] [609] [(True),(Cn.z0f ((q0j ⟨C,L,B⟩).C) ((q0j ⟨C,L,B⟩).B)∧Cn.q2m ((q0j ⟨C,L,B⟩).C) ((q0j ⟨C,L,B⟩).B)=5),(True)] ?_ ?_
      ·
       refine ap ?_ (ap ?_ (ap ?_ az))<;>
        first|exact True.intro|exact⟨n1,hk⟩
      exact Ft (Zr (Fp 6 (.intss []) (Rv hcx (congrArg AV.tup (q0f (congrArg AV.intss (show[]=(Cn.q3j C L B g next).1 from(by first|(rw[hr];done)|(rw[hr,Cn.z4v hk];done)|(rw[hr,Cn.es_2 hk];done)|(rw[hr,Cn.es_3 hk];done)|(rw[hr,Cn.z4j hk];done)|(rw[hr,Cn.z5k hk];done)|(rw[hr,Cn.z5c hk];done)))) (q0f (congrArg AV.int (show next=(Cn.q3j C L B g next).2.1 from(by first|(rw[hr];done)|(rw[hr,Cn.z4v hk];done)|(rw[hr,Cn.es_2 hk];done)|(rw[hr,Cn.es_3 hk];done)|(rw[hr,Cn.z4j hk];done)|(rw[hr,Cn.z5k hk];done)|(rw[hr,Cn.z5c hk];done)))) (q0f (congrArg AV.int (show 0=(Cn.q3j C L B g next).2.2 from(by first|(rw[hr];done)|(rw[hr,Cn.z4v hk];done)|(rw[hr,Cn.es_2 hk];done)|(rw[hr,Cn.es_3 hk];done)|(rw[hr,Cn.z4j hk];done)|(rw[hr,Cn.z5k hk];done)|(rw[hr,Cn.z5c hk];done)))) rfl)))) [] rfl)))
     ·
      refine Tcd v2w u5h hmx [0,0,3,7,0,0,63,127,127,127,1023,2047,4095] [(1006,.to 242)] [6,7,8] [9,2] [609] [(True),(Cn.z0f ((q0j ⟨C,L,B⟩).C) ((q0j ⟨C,L,B⟩).B)∧Cn.q2m ((q0j ⟨C,L,B⟩).C) ((q0j ⟨C,L,B⟩).B)=6),(-65537≤g∧g≤65537)] ?_ ?_
      ·
       refine ap ?_ (ap ?_ (ap ?_ az))<;>
        first|omega|exact True.intro|exact⟨n1,hk⟩
      exact Ft (Zr (Fn [(242,.frz)] [6,7,8] (Rv hcx (congrArg AV.tup (q0f (congrArg AV.intss (show(Cn.grd g [[]])=(Cn.q3j C L B g next).1 from(by first|(rw[hr];done)|(rw[hr,Cn.z4v hk];done)|(rw[hr,Cn.es_2 hk];done)|(rw[hr,Cn.es_3 hk];done)|(rw[hr,Cn.z4j hk];done)|(rw[hr,Cn.z5k hk];done)|(rw[hr,Cn.z5c hk];done)))) (q0f (congrArg AV.int (show next=(Cn.q3j C L B g next).2.1 from(by first|(rw[hr];done)|(rw[hr,Cn.z4v hk];done)|(rw[hr,Cn.es_2 hk];done)|(rw[hr,Cn.es_3 hk];done)|(rw[hr,Cn.z4j hk];done)|(rw[hr,Cn.z5k hk];done)|(rw[hr,Cn.z5c hk];done)))) (q0f (congrArg AV.int (show 0=(Cn.q3j C L B g next).2.2 from(by first|(rw[hr];done)|(rw[hr,Cn.z4v hk];done)|(rw[hr,Cn.es_2 hk];done)|(rw[hr,Cn.es_3 hk];done)|(rw[hr,Cn.z4j hk];done)|(rw[hr,Cn.z5k hk];done)|(rw[hr,Cn.z5c hk];done)))) rfl)))) [] rfl)))
 ·
  cases hσ
def x7u:Cx:=⟨z1g,[(17,(q1j [.agg [.ld (.ints []),.ld (.ints []),.id],.id,.id] k3h))],true⟩
theorem x2d:q1c Tryz.prog x7u:=q0s q3b ⟨(x4z.coe [.agg [.ld (.ints []),.ld (.ints []),.id],.id,.id] rfl),trivial⟩
def k3o:CtF
 |[.im (.ls (.lins l)),.im (.val (.int .i64 next))],[]=>some (l.length≤200000∧Fit next∧Cn.k4e l,.tup [.intss ((Cn.q1q l next).1),.int ((Cn.q1q l next).2.1),.int ((Cn.q1q l next).2.2)],[])
 |_,_=>none
theorem x3b:q0c Tryz.prog 7 k3o:=by
 refine Sw (cx:=x7u) Tryz.f7 Tryz.func7 ?_
 intro wW wO wβ G0 args os p r outs hσ hp
 have hcx:=x2d
 unfold k3o at hσ
 split at hσ
 ·
  rename_i l next
  cases hσ
  refine⟨by kernel_rfl,?_⟩
  obtain⟨hm1,hf,hntc⟩:=hp
  have hsb:=fun i (h:i≤l.length)=>Cn.k7h hntc hf i h
  refine Sz hcx [] [4] [] [] (Zs (Sq hcx [] [17] [] [] [((!(decide (next<1)))=true→((!(decide (next<1)))=true)),((decide (next<1))=false→(!(decide (next<1)))=true)] ?_ (Zi (b:=(decide (next<1))||(decide (next>65537))) (fun h0=>?_) fun h0=>?_)))
  ·
   refine ap ?_ (ap (by exact q2j) az)
   exact id
  ·
   have hr:Cn.q1q l next=([],0,1):=if_pos (Cn.v0x.1 h0)
   exact Sz hcx [] [4,5,6] [17,0,1] [] (Zr (Fr (Fp 4 (.intss []) (Rv hcx (congrArg AV.tup (q0f (congrArg AV.intss (show[]=(Cn.q1q l next).1 from(by first|(rw[hr];done)|(rw[hr];rfl)|(rw[Cn.z0n (by omega) hI2];done)))) (q0f (congrArg AV.int (show 0=(Cn.q1q l next).2.1 from(by first|(rw[hr];done)|(rw[hr];rfl)|(rw[Cn.z0n (by omega) hI2];done)))) (q0f (congrArg AV.int (show 1=(Cn.q1q l next).2.2 from(by first|(rw[hr];done)|(rw[hr];rfl)|(rw[Cn.z0n (by omega) hI2];done)))) rfl)))) [] rfl))))
  ·
   have h17_:=Cn.u8r h0
   refine Zk (Ft (Zs (Sz hcx [] [18,19,20] [17,0] [] (Zb (Zw 4 700 34 (.intss []) (Lp (X:=Nat) (fun x0=>x0≤l.length∧Cn.q1q l next=Cn.y6a (l.drop x0) (Cn.q1r l next x0).2 (Cn.q1r l next x0).1) (fun x0=>([(1,.int ((Cn.q1r l next x0).2)),(4,.row 700),(18,.lins l),(19,.int (l.length:Int)),(20,.int (x0:Int))],[(700,.row 34 (.intss ((Cn.q1r l next x0).1)))])) (fun x0=>l.length-x0) (0) ?_ (Ex 20 (congrArg AV.int (show 0=(0:Int)from(by first|rfl|omega|(simp;done)))) Eb) Hb fun i hI=>?_))))))
   ·
    exact⟨Qc1 _,Cn.v2g h17_⟩
   ·
    try dsimp only at hI
    obtain⟨hk,hI2⟩:=hI
    have hsi:=hsb i hk
    have hsg:=Cn.k1a hntc (next:=next) i (by omega)
    have hog:=fun(h:i<l.length)=>Cn.y9v hntc (next:=next) h
    refine Sz hcx [] [21] [] [] (Zs (Zj (p:=((i:Int)<(l.length:Int))) (fun h1=>?_) fun h1=>?_))
    ·
     refine Zk (Ft (Zs (Zb (Sq hcx [(1002,.to 608)] [8] [21] [] [((0:Int)≤(i:Int)∧(i:Int)<(l.length:Int))] ?_ (Sq hcx [] [9,10,11] [8,1] [608] [(Fit (0:Int)∧Fit ((Cn.q1r l next i).2)∧(q0o ⟨((l.getD i ([],[],0)).1),((l.getD i ([],[],0)).2.1),((l.getD i ([],[],0)).2.2)⟩ (((Cn.q1r l next i).2)-1)=0→Cn.q2m (q0j ⟨((l.getD i ([],[],0)).1),((l.getD i ([],[],0)).2.1),((l.getD i ([],[],0)).2.2)⟩).C (q0j ⟨((l.getD i ([],[],0)).1),((l.getD i ([],[],0)).2.1),((l.getD i ([],[],0)).2.2)⟩).B≠2∧Cn.q2m (q0j ⟨((l.getD i ([],[],0)).1),((l.getD i ([],[],0)).2.1),((l.getD i ([],[],0)).2.2)⟩).C (q0j ⟨((l.getD i ([],[],0)).1),((l.getD i ([],[],0)).2.1),((l.getD i ([],[],0)).2.2)⟩).B≠3))] ?_ (Zs (Sz hcx [] [32] [] [] (Zx (a:=((Cn.q3j ((l.getD i ([],[],0)).1) ((l.getD i ([],[],0)).2.1) ((l.getD i ([],[],0)).2.2) (0:Int) ((Cn.q1r l next i).2)).2.2)) (b:=0) (fun h2=>?_) fun h2=>?_))))))))
     ·
      refine ap ?_ az
      omega
     ·
      refine ap ?_ az
      exact⟨by decide,hsi,fun h8=>hntc _ (Cn.q0t (by omega)) _ h8⟩
     ·
      have hr:=Cn.u0f (i:=i) (by omega) hI2 h2
      exact Sz hcx [] [4,5,6] [32,9,10,11,18,19,20] [700] (Zr (Fr (Fk (Fr (Fr (Fk (Fr (Fp 4 (.intss []) (Rv hcx (congrArg AV.tup (q0f (congrArg AV.intss (show[]=(Cn.q1q l next).1 from(by first|(rw[hr];done)|(rw[hr];rfl)|(rw[Cn.z0n (by omega) hI2];done)))) (q0f (congrArg AV.int (show 0=(Cn.q1q l next).2.1 from(by first|(rw[hr];done)|(rw[hr];rfl)|(rw[Cn.z0n (by omega) hI2];done)))) (q0f (congrArg AV.int (show(Cn.q3j ((l.getD i ([],[],0)).1) ((l.getD i ([],[],0)).2.1) ((l.getD i ([],[],0)).2.2) (0:Int) ((Cn.q1r l next i).2)).2.2=(Cn.q1q l next).2.2 from(by first|(rw[hr];done)|(rw[hr];rfl)|(rw[Cn.z0n (by omega) hI2];done)))) rfl)))) [] rfl)))))))))
     ·
      have h32_:Cn.y3d l next i=0:=by first|exact h2|exact Decidable.not_not.1 h2
      refine Zk (Ft (Tq hcx [(1002,.to 700)] [1,4] [32,9,10,11] [700] [((((Cn.q1r l next i).1).length+((Cn.q3j ((l.getD i ([],[],0)).1) ((l.getD i ([],[],0)).2.1) ((l.getD i ([],[],0)).2.2) (0:Int) ((Cn.q1r l next i).2)).1).length)*24≤140737488355328)] ?_ (Fb (Ft (Tq hcx [] [20] [] [] [Fit ((i:Int)+1)] ?_ (Lr (i+1) ?_ ?_ (Ex 20 (congrArg AV.int (show((i:Int)+1)=((i+1):Int)from(by first|rfl|omega|(simp;done)))) Eb) Hb))))))
      ·
       refine ap ?_ az
       omega
      ·
       refine ap ?_ az
       omega
      ·
       exact⟨by omega,Cn.x8x (by omega) hI2 h32_⟩
      ·
       show l.length-(i+1)<l.length-i
       omega
    ·
     exact Ze (Fe (Fe (Fs (Ft (Sz hcx [] [4,5,6] [21,1,18,19,20] [] (Zr (Fn [(700,.frz)] [4,5,6] (Rv hcx (congrArg AV.tup (q0f (congrArg AV.intss (show(Cn.q1r l next i).1=(Cn.q1q l next).1 from(by first|(rw[hr];done)|(rw[hr];rfl)|(rw[Cn.z0n (by omega) hI2];done)))) (q0f (congrArg AV.int (show(Cn.q1r l next i).2=(Cn.q1q l next).2.1 from(by first|(rw[hr];done)|(rw[hr];rfl)|(rw[Cn.z0n (by omega) hI2];done)))) (q0f (congrArg AV.int (show 0=(Cn.q1q l next).2.2 from(by first|(rw[hr];done)|(rw[hr];rfl)|(rw[Cn.z0n (by omega) hI2];done)))) rfl)))) [] rfl))))))))
 ·
  cases hσ
end Go.Proofs.YteikjpbbhopkaaaGreatDoor.En
