/- Lemmas and contracts for the row. -/
import Derived.Test.YteikjpbbhopkaaaGreatDoorPkRowElimGatesAP
import Derived.Test.YteikjpbbhopkaaaGreatDoorPkRowElimGatesAF
import Derived.Test.YteikjpbbhopkaaaGreatDoorPkRowElimGatesQ
set_option linter.unusedVariables false
set_option linter.unusedSimpArgs false
set_option linter.unnecessarySimpa false
namespace Go.Proofs.YteikjpbbhopkaaaGreatDoor.En
open Go Go.RowKit
def u1k:List (Nat×TD):=[(3,⟨1,false,[.int .i64 0],[],none,8,false,1,1⟩),
 (26,⟨1,false,[.nilFunc],[],none,8,false,0,0⟩),
 (27,⟨1,false,[.slice none 0 0],[],some 57,24,false,0,0⟩),
 (34,⟨1,false,[.slice none 0 0],[],some 3,24,false,0,53⟩),
 (53,⟨2,true,[.slice none 0 0,.int .i64 0],[(0,27),(1,3)],none,32,false,0,0⟩),
 (57,⟨3,true,[.slice none 0 0,.slice none 0 0,.int .i64 0],[(0,34),(1,34),(2,3)],none,56,false,0,5⟩),
 (79,⟨1,false,[.map none],[],none,8,false,10,26⟩),
 (82,⟨3,true,[.slice none 0 0,.int .i64 0,.map none],[(0,53),(2,79)],none,40,false,0,0⟩)]
theorem x5x:q5u Tryz.prog u1k:=⟨⟨by kernel_rfl,by kernel_rfl,by kernel_rfl⟩,⟨by kernel_rfl,by kernel_rfl,by kernel_rfl⟩,⟨by kernel_rfl,by kernel_rfl,by kernel_rfl⟩,⟨by kernel_rfl,by kernel_rfl,by kernel_rfl⟩,⟨by kernel_rfl,by kernel_rfl,by kernel_rfl⟩,⟨by kernel_rfl,by kernel_rfl,by kernel_rfl⟩,⟨by kernel_rfl,by kernel_rfl,by kernel_rfl⟩,⟨by kernel_rfl,by kernel_rfl,by kernel_rfl⟩,trivial⟩
def k0e:Cx:=⟨u1k,[],true⟩
theorem x2f:q1c Tryz.prog k0e:=q0s x5x trivial
def z6m:CtF
 |[.loc 0 0,.im (.val (.int .i64 x)),.im (.val (.int .i64 c)),.im (.ls (.ints lits)),.im (.val (.int .i64 least))],[.box [.row 1,.im (.val (.int .i64 nx)),.row 2],.row 57 (.lins cs),.mfun [1,4,5,6] [.clo 62 [],.clo 63 [],.clo 61 [],.clo 64 []]]=>some (lits.length≤5000∧cs.length≤1000000000,.tup [],[some (.box [.row 3,.int nx,.row 2]),none,some (.mfun [1,4,5,6] [.clo 62 [],.clo 63 [],.clo 61 [],.clo 64 []]),some (.row 57 (.lins (cs++[Gt.putG x c lits least])))])
 |_,_=>none
theorem q6m:q0c Tryz.prog 101 z6m:=by
 refine Sw (cx:=k0e) Tryz.f101 Tryz.func101 ?_
 intro wW wO wβ G0 args os p r outs hσ hp
 have hcx:=x2f
 have hmx:Tryz.prog.follows .mixedOrders=true:=by kernel_rfl
 unfold z6m at hσ
 split at hσ
 ·
  rename_i x c lits least nx cs
  cases hσ
  refine⟨by kernel_rfl,?_⟩
  obtain⟨hm1,hm2⟩:=hp
  refine Sz hcx [(1001,.to 214),(1003,.to 216),(1006,.to 610)] [10] [1,2,4] [] (Zs (Sz hcx [] [19,20,21] [3] [] (Zb (Zn [(0,.to 0),(1,.to 1),(2,.to 2),(610,.to 610),(214,.to 700),(216,.to 701)] [0,10,19,20,21] (Lp (X:=Nat) (fun x0=>x0≤lits.length) (fun x0=>([(0,.loc 0 0),(10,.loc 610 0),(19,.ints lits),(20,.int (lits.length:Int)),(21,.int (x0:Int))],[(0,.box [.row 1,.int nx,.row 2]),(1,.row 57 (.lins cs)),(2,.mfun [1,4,5,6] [.clo 62 [],.clo 63 [],.clo 61 [],.clo 64 []]),(610,.box [.row 700,.row 701,.int least]),(700,.row 3 (.ints (c::List.replicate x0 1))),(701,.row 3 (.ints (x::lits.take x0)))])) (fun x0=>lits.length-x0) (0) ?_ (Ex 21 (congrArg AV.int (show 0=(0:Int)from(by first|rfl|omega|(simp;done)))) Eb) Hb fun i hI=>?_)))))
  ·
   show 0≤lits.length
   omega
  ·
   replace hI:i≤lits.length:=hI
   have htl:(lits.take i).length≤i:=by rw[Qd0];omega
   refine Sz hcx [] [22] [] [] (Zs (Zj (p:=((i:Int)<(lits.length:Int))) (fun h0=>?_) fun h0=>?_))
   ·
    refine Zk (Ft (Zs (Zb (Sq hcx [] [12] [22] [] [((0:Int)≤(i:Int)∧(i:Int)<(lits.length:Int))] ?_ (Td hcx hmx [0,1,0,7,0,16,0,64,255,63,1023,2047,4095] [(610,.to 610),(1003,.to 700),(1008,.to 701)] [] [12] [700,701] [(((c::List.replicate i 1).length+[1].length)*8≤140737488355328),(((x::lits.take i).length+[(lits.getD i 0)].length)*8≤140737488355328)] ?_ (Fb (Ft (Tq hcx [] [21] [] [] [Fit ((i:Int)+1)] ?_ (Fn [(0,.to 0),(1,.to 1),(2,.to 2),(610,.to 610),(700,.to 700),(701,.to 701)] [0,10,19,20,21] (Lr (i+1) ?_ ?_ (Ex 21 (congrArg AV.int (show((i:Int)+1)=((i+1):Int)from(by first|rfl|omega|(simp;done)))) Eb) (Hx 700 (congrArg (fun x=>q0d.row 3 (.ints x)) (show((c::List.replicate i 1)++[1])=(c::List.replicate (i+1) 1)from(by exact Gt.put_c))) (Hx 701 (congrArg (fun x=>q0d.row 3 (.ints x)) (show((x::lits.take i)++[(lits.getD i 0)])=(x::lits.take (i+1))from(by exact Gt.put_l (by omega)))) Hb))))))))))))
    ·
     refine ap ?_ az
     omega
    ·
     refine ap ?_ (ap ?_ az)<;>
      (simp only[Qa8,Qb5,Qa3,Qa9,Qb6,Qb1];omega)
    ·
     refine ap ?_ az
     omega
    ·
     show(i+1)≤lits.length
     omega
    ·
     show lits.length-(i+1)<lits.length-i
     omega
   ·
    refine Ze (Fe (Fe (Fs (Ft (Td hcx hmx [0,0,2,6,14,30,0,64,254,511,1023,2047,4095] [(0,.to 0),(1008,.to 245)] [] [22,0,10,19,20,21] [1,610,700,701] [((cs.length+[((c::List.replicate i 1),(x::lits.take i),least)].length)*56≤140737488355328)] ?_ (Fn [(0,.to 0),(2,.to 2),(245,.to 3)] [] (Rw hcx rfl [true,false,true,true] (q1g rfl (q1g rfl (q1g rfl (q1g (congrArg some (congrArg (fun x=>q0d.row 57 (.lins x)) (show(cs++[((c::List.replicate i 1),(x::lits.take i),least)])=(cs++[Gt.putG x c lits least])from(by(rw[Gt.put_e (show i=lits.length by omega)]))))) rfl)))))))))))
    ·
     refine ap ?_ az
     (simp only[Qa8,Qb5,Qa3,Qa9,Qb6,Qb1];omega)
 ·
  cases hσ
def q8x:List (Nat×TD):=[(3,⟨1,false,[.int .i64 0],[],none,8,false,1,1⟩),
 (22,⟨1,false,[.slice none 0 0],[],some 24,24,false,0,0⟩),
 (24,⟨4,true,[.int .i64 0,.int .i64 0,.int .i64 0,.slice none 0 0],[(0,3),(1,3),(2,3),(3,22)],none,48,false,0,4⟩),
 (26,⟨1,false,[.nilFunc],[],none,8,false,0,0⟩),
 (27,⟨1,false,[.slice none 0 0],[],some 57,24,false,0,0⟩),
 (28,⟨1,false,[.int .i64 0],[],none,8,false,1,1⟩),
 (34,⟨1,false,[.slice none 0 0],[],some 3,24,false,0,3⟩),
 (53,⟨2,true,[.slice none 0 0,.int .i64 0],[(0,27),(1,3)],none,32,false,0,0⟩),
 (57,⟨3,true,[.slice none 0 0,.slice none 0 0,.int .i64 0],[(0,34),(1,34),(2,3)],none,56,false,0,5⟩),
 (69,⟨1,false,[.nilFunc],[],none,8,false,0,0⟩),
 (78,⟨1,false,[.pointer none],[],none,8,false,0,0⟩),
 (79,⟨1,false,[.map none],[],none,8,false,10,26⟩),
 (82,⟨3,true,[.slice none 0 0,.int .i64 0,.map none],[(0,53),(2,79)],none,40,false,0,0⟩),
 (84,⟨1,true,[.int .i64 0],[(0,28)],none,8,false,0,0⟩)]
theorem q3o:q5u Tryz.prog q8x:=⟨⟨by kernel_rfl,by kernel_rfl,by kernel_rfl⟩,⟨by kernel_rfl,by kernel_rfl,by kernel_rfl⟩,⟨by kernel_rfl,by kernel_rfl,by kernel_rfl⟩,⟨by kernel_rfl,by kernel_rfl,by kernel_rfl⟩,⟨by kernel_rfl,by kernel_rfl,by kernel_rfl⟩,⟨by kernel_rfl,by kernel_rfl,by kernel_rfl⟩,⟨by kernel_rfl,by kernel_rfl,by kernel_rfl⟩,⟨by kernel_rfl,by kernel_rfl,by kernel_rfl⟩,⟨by kernel_rfl,by kernel_rfl,by kernel_rfl⟩,⟨by kernel_rfl,by kernel_rfl,by kernel_rfl⟩,⟨by kernel_rfl,by kernel_rfl,by kernel_rfl⟩,⟨by kernel_rfl,by kernel_rfl,by kernel_rfl⟩,⟨by kernel_rfl,by kernel_rfl,by kernel_rfl⟩,⟨by kernel_rfl,by kernel_rfl,by kernel_rfl⟩,trivial⟩
def u1j:Cx:=⟨q8x,[],true⟩
theorem x6h:q1c Tryz.prog u1j:=q0s q3o trivial
def x4s:CtF
 |[.agg [.im (.val (.int .i64 q)),.im (.val (.int .i64 v)),.im (.val (.int .i64 k)),.im (.ls (.trees l))]],[]=>some (True,.int 1,[])
 |_,_=>none
theorem z2c:q0c Tryz.prog 61 x4s:=by
 refine Sw (cx:=u1j) Tryz.f61 Tryz.func61 ?_
 intro wW wO wβ G0 args os p r outs hσ hp
 have hcx:=x6h
 unfold x4s at hσ
 split at hσ
 ·
  rename_i q v k l
  cases hσ
  refine⟨by kernel_rfl,?_⟩
  exact Sz hcx [] [] [0] [] (Sz hcx [] [2] [] [] (Zr (Ru hcx [])))
 ·
  cases hσ
def k9m:Cx:=⟨q8x,[],true⟩
theorem k3q:q1c Tryz.prog k9m:=q0s q3o trivial
def x3v:CtF
 |[.agg [.im (.val (.int .i64 q)),.im (.val (.int .i64 v)),.im (.val (.int .i64 k)),.im (.ls (.trees l))]],[]=>some (v=0∨v=1,.int (1-v),[])
 |_,_=>none
theorem z2o:q0c Tryz.prog 62 x3v:=by
 refine Sw (cx:=k9m) Tryz.f62 Tryz.func62 ?_
 intro wW wO wβ G0 args os p r outs hσ hp
 have hcx:=k3q
 unfold x3v at hσ
 split at hσ
 ·
  rename_i q v k l
  cases hσ
  refine⟨by kernel_rfl,?_⟩
  refine Sz hcx [(1000,.frz)] [1] [0] [] (Sq hcx [] [2] [1] [] [Fit (1-v)] ?_ (Zr (Ru hcx [])))
  ·
   refine ap ?_ az
   omega
 ·
  cases hσ
def u0c:Cx:=⟨q8x,[],true⟩
theorem k0m:q1c Tryz.prog u0c:=q0s q3o trivial
def x3x:CtF
 |[.agg [.im (.val (.int .i64 q)),.im (.val (.int .i64 v)),.im (.val (.int .i64 k)),.im (.ls (.trees l))]],[]=>some (True,.int ((l.length:Nat):Int),[])
 |_,_=>none
theorem z1s:q0c Tryz.prog 63 x3x:=by
 refine Sw (cx:=u0c) Tryz.f63 Tryz.func63 ?_
 intro wW wO wβ G0 args os p r outs hσ hp
 have hcx:=k0m
 unfold x3x at hσ
 split at hσ
 ·
  rename_i q v k l
  cases hσ
  refine⟨by kernel_rfl,?_⟩
  exact Sz hcx [(1000,.frz)] [1] [0] [] (Sz hcx [] [2] [1] [] (Zr (Ru hcx [])))
 ·
  cases hσ
def k9n:Cx:=⟨q8x,[],true⟩
theorem k2v:q1c Tryz.prog k9n:=q0s q3o trivial
def x4p:CtF
 |[.agg [.im (.val (.int .i64 q)),.im (.val (.int .i64 v)),.im (.val (.int .i64 k)),.im (.ls (.trees l))]],[]=>some (True,.int k,[])
 |_,_=>none
theorem z1r:q0c Tryz.prog 64 x4p:=by
 refine Sw (cx:=k9n) Tryz.f64 Tryz.func64 ?_
 intro wW wO wβ G0 args os p r outs hσ hp
 have hcx:=k2v
 unfold x4p at hσ
 split at hσ
 ·
  rename_i q v k l
  cases hσ
  refine⟨by kernel_rfl,?_⟩
  exact Sz hcx [(1000,.frz)] [1] [0] [] (Sz hcx [] [2] [1] [] (Zr (Ru hcx [])))
 ·
  cases hσ
def z8h:Cx:=⟨q8x,[(101,(q1j [.id,.id,.id,.ld (.ints []),.id] z6m)),(48,z0k)],true⟩
theorem z4s:q1c Tryz.prog z8h:=q0s q3o ⟨(q6m.coe [.id,.id,.id,.ld (.ints []),.id] rfl),q2t,trivial⟩
def z0e:CtF
 |[.loc 0 0,.im (.val (.int .i64 k)),.im (.ls (.ints lits))],[.box [.row 1,.im (.val (.int .i64 nx)),.row 2],.row 57 (.lins cs),.mfun [1,4,5,6] [.clo 62 [],.clo 63 [],.clo 61 [],.clo 64 []]]=>some (lits.length≤4095∧(∀x∈lits,-65536≤x∧x≤65536)∧cs.length≤999999998∧1≤nx∧nx≤65536∧0≤k∧k≤1099511627776,.int nx,[some (.box [.row 3,.int (nx+1),.row 2]),none,some (.mfun [1,4,5,6] [.clo 62 [],.clo 63 [],.clo 61 [],.clo 64 []]),some (.row 57 (.lins (cs++Gt.freshG k lits nx)))])
 |_,_=>none
theorem q6c:q0c Tryz.prog 67 z0e:=by
 refine Sw (cx:=z8h) Tryz.f67 Tryz.func67 ?_
 intro wW wO wβ G0 args os p r outs hσ hp
 have hcx:=z4s
 unfold z0e at hσ
 split at hσ
 ·
  rename_i k lits nx cs
  cases hσ
  refine⟨by kernel_rfl,?_⟩
  obtain⟨hm1,hm2,hm3,hn1,hn2,hk0,hk1⟩:=hp
  have hb:=fun i (h:i<lits.length)=>hm2 _ (Cn.q0t (d:=(0:Int)) (k:=i) h)
  refine Sz hcx [] [] [] [] (Zs (Sz hcx [] [16] [] [] (Zi (b:=decide (nx>65536)) (fun h0=>?_) fun h0=>?_)))
  ·
   (exfalso;have h9:=of_decide_eq_true h0;omega)
  ·
   skip
   refine Zk (Ft (Sz hcx [] [7,8] [16] [] (Sq hcx [(0,.to 0)] [] [] [] [Fit (nx+1)] ?_ (Zs (Zb (Sz hcx [] [70] [] [] (Zj (p:=(k≤0)) (fun h1=>?_) fun h1=>?_)))))))
   ·
    refine ap ?_ az
    omega
   ·
    have h70:=h1
    refine Tq hcx [(0,.to 0),(2,.to 2),(1002,.to 275)] [] [70,8,0,1,2] [1] [(([]:List (Int)).length≤5000∧cs.length≤1000000000)] ?_ (Fb (Ft (Sz hcx [] [6] [7] [] (Zr (Fn [(0,.to 0),(2,.to 2),(275,.to 3)] [6] (Rv hcx rfl [true,false,true,true] (q1g rfl (q1g rfl (q1g rfl (q1g (congrArg some (congrArg (fun x=>q0d.row 57 (.lins x)) (show(cs++[Gt.putG nx (1:Int) ([]:List (Int)) (1:Int)])=(cs++Gt.freshG k lits nx)from(by first|exact Gt.fr_0 (by omega)|exact Gt.fr_1 (by omega) (by omega)|exact Gt.fr_2 (by omega) (by omega)|(rw[Gt.ng_all (show i=lits.length by omega)];exact Gt.fr_2 (by omega) (by omega))|done)))) rfl))))))))))
    ·
     refine ap ?_ az
     (simp only[Qa8,Qb5,Qa3,Qa9,Qb6,Qb1];omega)
   ·
    have h70:=h1
    refine Sz hcx [] [76] [70] [] (Zj (p:=(k>(lits.length:Int))) (fun h2=>?_) fun h2=>?_)
    ·
     have h76:=h2
     refine Tq hcx [(0,.to 0),(2,.to 2),(1003,.to 283)] [] [76,8,0,1,2] [1] [Fit (-nx),(([]:List (Int)).length≤5000∧cs.length≤1000000000)] ?_ (Fb (Ft (Sz hcx [] [6] [7] [] (Zr (Fn [(0,.to 0),(2,.to 2),(283,.to 3)] [6] (Rv hcx rfl [true,false,true,true] (q1g rfl (q1g rfl (q1g rfl (q1g (congrArg some (congrArg (fun x=>q0d.row 57 (.lins x)) (show(cs++[Gt.putG (-nx) (1:Int) ([]:List (Int)) (1:Int)])=(cs++Gt.freshG k lits nx)from(by first|exact Gt.fr_0 (by omega)|exact Gt.fr_1 (by omega) (by omega)|exact Gt.fr_2 (by omega) (by omega)|(rw[Gt.ng_all (show i=lits.length by omega)];exact Gt.fr_2 (by omega) (by omega))|done)))) rfl))))))))))
     ·
      refine ap ?_ (ap ?_ az)<;>
       first|omega|(simp only[Qa8,Qb5,Qa3,Qa9,Qb6,Qb1];omega)
    ·
     have h76:=h2
     refine Sq hcx [(0,.to 0),(2,.to 2),(1006,.to 241)] [] [76] [1] [Fit (-nx),(lits.length≤5000∧cs.length≤1000000000)] ?_ (Sq hcx [(1001,.to 243)] [9] [2] [] [(lits.length≤1000000000000)] ?_ (Zs (Sz hcx [] [45,46] [] [] (Zb (Zn [(0,.to 0),(2,.to 2),(241,.to 241),(243,.to 702)] [0,1,7,8,9,45,46] (Lp (X:=Nat) (fun x0=>x0≤lits.length) (fun x0=>([(0,.loc 0 0),(1,.int k),(7,.int nx),(8,.int (lits.length:Int)),(9,.row 702),(45,.int (lits.length:Int)),(46,.int (x0:Int))],[(0,.box [.row 241,.int (nx+1),.row 2]),(2,.mfun [1,4,5,6] [.clo 62 [],.clo 63 [],.clo 61 [],.clo 64 []]),(241,.row 57 (.lins (cs++[Gt.putG (-nx) k lits k]))),(702,.row 3 (.ints (Gt.ngT lits x0)))])) (fun x0=>lits.length-x0) (0) ?_ (Ex 46 (congrArg AV.int (show 0=(0:Int)from(by first|rfl|omega|(simp;done)))) Eb) (Hx 702 (congrArg (fun x=>q0d.row 3 (.ints x)) (show lits=(Gt.ngT lits 0)from(by exact Gt.ng_0))) Hb) fun i hI=>?_))))))
     ·
      refine ap ?_ (ap ?_ az)<;>
       omega
     ·
      refine ap ?_ az
      omega
     ·
      show 0≤lits.length
      omega
     ·
      replace hI:i≤lits.length:=hI
      have hbi:=hb i
      have hnl:=Gt.ng_len (lits:=lits) (i:=i)
      have hna:=fun(h:i<lits.length)=>Gt.ng_at h
      refine Sz hcx [] [47] [] [] (Zs (Zj (p:=((i:Int)<(lits.length:Int))) (fun h3=>?_) fun h3=>?_))
      ·
       refine Zk (Ft (Zs (Zb (Sz hcx [] [10] [47] [] (Tq hcx [(702,.to 702)] [] [10] [] [((0:Int)≤(i:Int)∧(i:Int)<((Gt.ngT lits i).length:Int)),(i<(Gt.ngT lits i).length),Fit (-((Gt.ngT lits i).getD i 0)),((0:Int)≤(i:Int)∧(i:Int)<((Gt.ngT lits i).length:Int)),(i<(Gt.ngT lits i).length)] ?_ (Fb (Ft (Tq hcx [] [46] [] [] [Fit ((i:Int)+1)] ?_ (Fn [(0,.to 0),(2,.to 2),(241,.to 241),(702,.to 702)] [0,1,7,8,9,45,46] (Lr (i+1) ?_ ?_ (Ex 46 (congrArg AV.int (show((i:Int)+1)=((i+1):Int)from(by first|rfl|omega|(simp;done)))) Eb) (Hx 702 (congrArg (fun x=>q0d.row 3 (.ints x)) (show((Gt.ngT lits i).set i (-((Gt.ngT lits i).getD i 0)))=(Gt.ngT lits (i+1))from(by exact Gt.ng_next (by omega)))) Hb)))))))))))
       ·
        refine ap ?_ (ap ?_ (ap ?_ (ap ?_ (ap ?_ az))))<;>
         omega
       ·
        refine ap ?_ az
        omega
       ·
        show(i+1)≤lits.length
        omega
       ·
        show lits.length-(i+1)<lits.length-i
        omega
      ·
       refine Ze (Fe (Fe (Fs (Ft (Zn [(0,.to 0),(2,.to 2),(241,.to 241),(702,.frz)] [47,0,1,7,8,9,45,46] (Tq hcx [(0,.to 0),(2,.to 2),(1011,.to 241)] [] [47,0,1,8,9,45,46] [241] [Fit ((lits.length:Int)-k),Fit (((lits.length:Int)-k)+1),Fit ((lits.length:Int)-k),Fit (((lits.length:Int)-k)+1),((Gt.ngT lits i).length≤5000∧(cs++[Gt.putG (-nx) k lits k]).length≤1000000000)] ?_ (Fb (Ft (Sz hcx [] [6] [7] [] (Zr (Fn [(0,.to 0),(2,.to 2),(241,.to 3)] [6] (Rv hcx rfl [true,false,true,true] (q1g rfl (q1g rfl (q1g rfl (q1g (congrArg some (congrArg (fun x=>q0d.row 57 (.lins x)) (show((cs++[Gt.putG (-nx) k lits k])++[Gt.putG nx (((lits.length:Int)-k)+1) (Gt.ngT lits i) (((lits.length:Int)-k)+1)])=(cs++Gt.freshG k lits nx)from(by first|exact Gt.fr_0 (by omega)|exact Gt.fr_1 (by omega) (by omega)|exact Gt.fr_2 (by omega) (by omega)|(rw[Gt.ng_all (show i=lits.length by omega)];exact Gt.fr_2 (by omega) (by omega))|done)))) rfl))))))))))))))))
       ·
        refine ap ?_ (ap ?_ (ap ?_ (ap ?_ (ap ?_ az))))<;>
         first|omega|(simp only[Qa8,Qb5,Qa3,Qa9,Qb6,Qb1];omega)
 ·
  cases hσ
def y0i:Cx:=⟨q8x,[],true⟩
theorem j8i:q1c Tryz.prog y0i:=q0s q3o trivial
def q9s:CtF
 |[],[]=>some (True,.row 0,[some (.mfun [1,4,5,6] [.clo 62 [],.clo 63 [],.clo 61 [],.clo 64 []])])
 |_,_=>none
theorem q5x:q0c Tryz.prog 35 q9s:=by
 refine Sw (cx:=y0i) Tryz.f35 Tryz.func35 ?_
 intro wW wO wβ G0 args os p r outs hσ hp
 have hcx:=j8i
 unfold q9s at hσ
 split at hσ
 ·
  cases hσ
  refine⟨by kernel_rfl,?_⟩
  exact Sz hcx [] [] [] [] (Sz hcx [] [1] [] [] (Sz hcx [(1000,.to 202)] [0] [1] [] (Zr (Fn [(202,.to 0)] [0] (Ru hcx [true])))))
 ·
  cases hσ
def q4n (nn:Nat):CtF
 |[.agg [.im (.val (.int .i64 q)),.im (.val (.int .i64 v)),.im (.val (.int .i64 k)),.im (.ls (.trees l))]],[]=>some (l.length≤2932031007317∧Fl.q2b l∧Fl.q0p l<nn,.bool (Gt.wideT (.node q v k l)),[])
 |_,_=>none
def u0r (nn:Nat):Cx:=⟨q8x,[(101,(q1j [.id,.id,.id,.ld (.ints []),.id] z6m)),(61,(q1j [.agg [.id,.id,.id,.ld (.trees [])]] x4s)),(62,(q1j [.agg [.id,.id,.id,.ld (.trees [])]] x3v)),(63,(q1j [.agg [.id,.id,.id,.ld (.trees [])]] x3x)),(64,(q1j [.agg [.id,.id,.id,.ld (.trees [])]] x4p)),(48,z0k),(67,(q1j [.id,.id,.ld (.ints [])] z0e)),(35,q9s),(38,(q1j [.agg [.id,.id,.id,.ld (.trees [])]] (q4n nn)))],true⟩
theorem k2y (nn:Nat) (hR:q0c Tryz.prog 38 (q4n nn)):q1c Tryz.prog (u0r nn):=q0s q3o ⟨(q6m.coe [.id,.id,.id,.ld (.ints []),.id] rfl),(z2c.coe [.agg [.id,.id,.id,.ld (.trees [])]] rfl),(z2o.coe [.agg [.id,.id,.id,.ld (.trees [])]] rfl),(z1s.coe [.agg [.id,.id,.id,.ld (.trees [])]] rfl),(z1r.coe [.agg [.id,.id,.id,.ld (.trees [])]] rfl),q2t,(q6c.coe [.id,.id,.ld (.ints [])] rfl),q5x,(hR.coe [.agg [.id,.id,.id,.ld (.trees [])]] rfl),trivial⟩
def k4v (nn:Nat):CtF
 |[.im (.ls (.trees s)),.clo 38 []],[]=>some (s.length≤2932031007317∧Fl.q2b s∧Fl.q0p s≤nn,.int (Cn.q5r Gt.wideT s),[])
 |_,_=>none
theorem y0c (nn:Nat) (hR:q0c Tryz.prog 38 (q4n nn)):q0c Tryz.prog 56 (k4v nn):=by
 refine Sw (cx:=(u0r nn)) Tryz.f56 Tryz.func56 ?_
 intro wW wO wβ G0 args os p r outs hσ hp
 have hcx:=k2y nn hR
 unfold k4v at hσ
 split at hσ
 ·
  rename_i s
  cases hσ
  refine⟨by kernel_rfl,?_⟩
  obtain⟨hm1,hm2,hsz⟩:=hp
  have hm9:=hm1
  refine Sz hcx [] [] [] [] (Zs (Sz hcx [] [7,8] [] [] (Zb (Lp (X:=Nat) (fun x0=>x0≤s.length∧∀j,j<x0→Gt.wideT (s.getD j q0a)=false) (fun x0=>([(0,.trees s),(1,.clo 38 []),(7,.int (s.length:Int)),(8,.int (x0:Int))],[])) (fun x0=>s.length-x0) (0) ?_ (Ex 8 (congrArg AV.int (show 0=(0:Int)from(by first|rfl|omega|(simp;done)))) Eb) Hb fun i hI=>?_))))
  ·
   exact⟨Qc1 _,fun j hj=>by omega⟩
  ·
   try dsimp only at hI
   obtain⟨hk,hok⟩:=hI
   have hsub:i<s.length→Fl.q0p (s.getD i q0a).l<Fl.q0p s:=fun h=>Fl.z1z h
   have hlen:i<s.length→_:=fun h=>Fl.z8f hm2 h
   refine Sz hcx [] [9] [] [] (Zs (Zj (p:=((i:Int)<(s.length:Int))) (fun h0=>?_) fun h0=>?_))
   ·
    refine Zk (Ft (Zs (Zb (Sz hcx [] [5] [9] [] (Sq hcx [] [16] [] [] [((0:Int)≤(i:Int)∧(i:Int)<(s.length:Int)),(((s.getD i q0a).l).length≤2932031007317∧Fl.q2b ((s.getD i q0a).l)∧Fl.q0p ((s.getD i q0a).l)<nn)] ?_ (Zi (b:=Gt.wideT (.node ((s.getD i q0a).kind) ((s.getD i q0a).v) ((s.getD i q0a).k) ((s.getD i q0a).l))) (fun h1=>?_) fun h1=>?_))))))
    ·
     refine ap ?_ (ap ?_ az)<;>
      first|omega|(have h8:=hsub (by omega);have h7:=hlen (by omega);exact⟨h7.1,h7.2,by omega⟩)
    ·
     have hq:Gt.wideT (s.getD i q0a)=true:=(Gt.wide_at _).symm.trans h1
     exact Sz hcx [] [4] [16,5,0,1,7,8] [] (Zr (Fk (Fr (Fr (Fk (Fr (Rv hcx (congrArg AV.int (show(i:Int)=(Cn.q5r Gt.wideT s)from(by exact(Cn.q4r (p:=Gt.wideT) (by omega) hok hq).symm))) [] rfl)))))))
    ·
     have hq:Gt.wideT (s.getD i q0a)=false:=(Gt.wide_at _).symm.trans h1
     refine Zk (Fb (Ft (Tq hcx [] [8] [16,5] [] [Fit ((i:Int)+1)] ?_ (Lr (i+1) ?_ ?_ (Ex 8 (congrArg AV.int (show((i:Int)+1)=((i+1):Int)from(by first|rfl|omega|(simp;done)))) Eb) Hb))))
     ·
      refine ap ?_ az
      omega
     ·
      exact⟨by omega,fun j hj=>by rcases(by omega:j<i∨j=i)with h|rfl;exact hok j h;exact hq⟩
     ·
      show s.length-(i+1)<s.length-i
      omega
   ·
    exact Ze (Fe (Fe (Fs (Ft (Sz hcx [] [4] [9,0,1,7,8] [] (Zr (Rv hcx (congrArg AV.int (show(-1)=(Cn.q5r Gt.wideT s)from(by exact(Cn.q6k (p:=Gt.wideT) (Cn.q7i (d:=q0a) (fun j hj=>hok j (by omega)))).symm))) [] rfl)))))))
 ·
  cases hσ
def u0k (nn:Nat):Cx:=⟨q8x,[(101,(q1j [.id,.id,.id,.ld (.ints []),.id] z6m)),(61,(q1j [.agg [.id,.id,.id,.ld (.trees [])]] x4s)),(62,(q1j [.agg [.id,.id,.id,.ld (.trees [])]] x3v)),(63,(q1j [.agg [.id,.id,.id,.ld (.trees [])]] x3x)),(64,(q1j [.agg [.id,.id,.id,.ld (.trees [])]] x4p)),(48,z0k),(67,(q1j [.id,.id,.ld (.ints [])] z0e)),(35,q9s),(38,(q1j [.agg [.id,.id,.id,.ld (.trees [])]] (q4n nn))),(56,(q1j [.ld (.trees []),.id] (k4v nn)))],true⟩
theorem x7l (nn:Nat) (hR:q0c Tryz.prog 38 (q4n nn)):q1c Tryz.prog (u0k nn):=q0s q3o ⟨(q6m.coe [.id,.id,.id,.ld (.ints []),.id] rfl),(z2c.coe [.agg [.id,.id,.id,.ld (.trees [])]] rfl),(z2o.coe [.agg [.id,.id,.id,.ld (.trees [])]] rfl),(z1s.coe [.agg [.id,.id,.id,.ld (.trees [])]] rfl),(z1r.coe [.agg [.id,.id,.id,.ld (.trees [])]] rfl),q2t,(q6c.coe [.id,.id,.ld (.ints [])] rfl),q5x,(hR.coe [.agg [.id,.id,.id,.ld (.trees [])]] rfl),((y0c nn hR).coe [.ld (.trees []),.id] rfl),trivial⟩
def u5f (nn:Nat):CtF
 |[.im (.ls (.trees s)),.clo 38 []],[]=>some (s.length≤2932031007317∧Fl.q2b s∧Fl.q0p s≤nn,.bool (s.any Gt.wideT),[])
 |_,_=>none
theorem x6r (nn:Nat) (hR:q0c Tryz.prog 38 (q4n nn)):q0c Tryz.prog 28 (u5f nn):=by
 refine Sw (cx:=(u0k nn)) Tryz.f28 Tryz.func28 ?_
 intro wW wO wβ G0 args os p r outs hσ hp
 have hcx:=x7l nn hR
 unfold u5f at hσ
 split at hσ
 ·
  rename_i s
  cases hσ
  refine⟨by kernel_rfl,?_⟩
  refine Sz hcx [] [] [] [] (Sq hcx [] [4] [0,1] [] [(s.length≤2932031007317∧Fl.q2b s∧Fl.q0p s≤nn)] ?_ (Zr (Rv hcx (congrArg AV.bool (show(decide ((Cn.q5r Gt.wideT s)≥0))=(s.any Gt.wideT)from(by exact Cn.q4q (p:=Gt.wideT) s))) [] rfl)))
  ·
   refine ap ?_ az
   exact hp
 ·
  cases hσ
def x0r (nn:Nat):Cx:=⟨q8x,[(101,(q1j [.id,.id,.id,.ld (.ints []),.id] z6m)),(61,(q1j [.agg [.id,.id,.id,.ld (.trees [])]] x4s)),(62,(q1j [.agg [.id,.id,.id,.ld (.trees [])]] x3v)),(63,(q1j [.agg [.id,.id,.id,.ld (.trees [])]] x3x)),(64,(q1j [.agg [.id,.id,.id,.ld (.trees [])]] x4p)),(48,z0k),(67,(q1j [.id,.id,.ld (.ints [])] z0e)),(35,q9s),(38,(q1j [.agg [.id,.id,.id,.ld (.trees [])]] (q4n nn))),(56,(q1j [.ld (.trees []),.id] (k4v nn))),(28,(q1j [.ld (.trees []),.id] (u5f nn)))],true⟩
theorem y3q (nn:Nat) (hR:q0c Tryz.prog 38 (q4n nn)):q1c Tryz.prog (x0r nn):=q0s q3o ⟨(q6m.coe [.id,.id,.id,.ld (.ints []),.id] rfl),(z2c.coe [.agg [.id,.id,.id,.ld (.trees [])]] rfl),(z2o.coe [.agg [.id,.id,.id,.ld (.trees [])]] rfl),(z1s.coe [.agg [.id,.id,.id,.ld (.trees [])]] rfl),(z1r.coe [.agg [.id,.id,.id,.ld (.trees [])]] rfl),q2t,(q6c.coe [.id,.id,.ld (.ints [])] rfl),q5x,(hR.coe [.agg [.id,.id,.id,.ld (.trees [])]] rfl),((y0c nn hR).coe [.ld (.trees []),.id] rfl),((x6r nn hR).coe [.ld (.trees []),.id] rfl),trivial⟩
theorem x4d (nn:Nat) (hR:q0c Tryz.prog 38 (q4n nn)):q0c Tryz.prog 38 (q4n (nn+1)):=by
 refine Sw (cx:=(x0r nn)) Tryz.f38 Tryz.func38 ?_
 intro wW wO wβ G0 args os p r outs hσ hp
 have hcx:=y3q nn hR
 unfold q4n at hσ
 split at hσ
 ·
  rename_i q v k l
  cases hσ
  refine⟨by kernel_rfl,?_⟩
  obtain⟨hm1,hm2,hsz⟩:=hp
  have hm9:=hm1
  refine Sz hcx [(1000,.frz)] [1] [0] [] (Sq hcx [] [2] [1] [] [((!(decide ((l.length:Int)>4095)))=true→((!(decide ((l.length:Int)>4095)))=true)),((!(decide ((l.length:Int)>4095)))=true→((!(decide ((l.length:Int)>4095)))=true)),((!(decide ((l.length:Int)>4095)))=true→(l.length≤2932031007317∧Fl.q2b l∧Fl.q0p l≤nn)),((decide ((l.length:Int)>4095))=false→(!(decide ((l.length:Int)>4095)))=true)] ?_ (Zr (Rv hcx (congrArg AV.bool (show((decide ((l.length:Int)>4095))||(l.any Gt.wideT))=(Gt.wideT (.node q v k l))from(by exact Gt.wide_eq.symm))) [] rfl)))
  ·
   refine ap ?_ (ap ?_ (ap ?_ (ap (by exact q2j) az)))<;>
    first|exact id|exact(fun _=>⟨hm1,hm2,by omega⟩)
 ·
  cases hσ
theorem k4c:∀nn,q0c Tryz.prog 38 (q4n nn):=z2k (z4a (fn:=Tryz.f38) Tryz.func38 (by kernel_rfl) rfl (fun args os p r outs hσ hp=>by
 unfold q4n at hσ
 split at hσ
 ·simp only[Option.some.injEq,Prod.mk.injEq]at hσ
  obtain⟨rfl,rfl,rfl⟩:=hσ
  exact absurd hp.2.2 (Qp3 _)
 ·cases hσ)) x4d
def y3o:CtF
 |[.agg [.im (.val (.int .i64 q)),.im (.val (.int .i64 v)),.im (.val (.int .i64 k)),.im (.ls (.trees l))]],[]=>some (l.length≤2932031007317∧Fl.q2b l,.bool (Gt.wideT (.node q v k l)),[])
 |_,_=>none
theorem y7l:q0c Tryz.prog 38 y3o:=z6r k4c (fun args os p r outs hσ hp=>by
 unfold y3o at hσ
 split at hσ
 ·rename_i q v k l
  simp only[Option.some.injEq,Prod.mk.injEq]at hσ
  obtain⟨rfl,rfl,rfl⟩:=hσ
  exact⟨Fl.q0p l+1,_,rfl,⟨hp.1,hp.2,Qk9 _⟩⟩
 ·cases hσ)
end Go.Proofs.YteikjpbbhopkaaaGreatDoor.En
