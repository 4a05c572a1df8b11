/- Lemmas and contracts for the row. -/
import Derived.Test.YteikjpbbhopkaaaGreatDoorPkRowElimGatesAG
import Derived.Test.YteikjpbbhopkaaaGreatDoorPkRowElimGatesAM
import Derived.Test.YteikjpbbhopkaaaGreatDoorPkRowElimGatesAC
import Derived.Test.YteikjpbbhopkaaaGreatDoorPkRowElimGatesAK
set_option linter.unusedVariables false
set_option linter.unusedSimpArgs false
set_option linter.unnecessarySimpa false
namespace Go.Proofs.YteikjpbbhopkaaaGreatDoor.En
open Go Go.RowKit
def z8a:List (Nat×TD):=[(3,⟨1,false,[.int .i64 0],[],none,8,false,1,1⟩),
 (4,⟨1,false,[.bool false],[],none,1,true,0,2⟩),
 (28,⟨1,false,[.int .i64 0],[],none,8,false,1,1⟩),
 (31,⟨1,false,[.slice none 0 0],[],some 34,24,false,0,0⟩),
 (34,⟨1,false,[.slice none 0 0],[],some 3,24,false,0,3⟩),
 (36,⟨2,true,[.int .i64 0,.slice none 0 0],[(0,3),(1,31)],none,32,false,0,6⟩),
 (37,⟨1,false,[.slice none 0 0],[],some 46,24,false,0,0⟩),
 (40,⟨1,false,[.slice none 0 0],[],some 4,24,false,0,0⟩),
 (46,⟨2,true,[.int .i64 0,.slice none 0 0],[(0,3),(1,31)],none,32,false,0,6⟩),
 (60,⟨1,false,[.nilFunc],[],none,8,false,0,0⟩),
 (65,⟨1,false,[.nilFunc],[],none,8,false,0,0⟩)]
theorem q6t:q5u Tryz.prog z8a:=⟨⟨by kernel_rfl,by kernel_rfl,by kernel_rfl⟩,⟨by kernel_rfl,by kernel_rfl,by kernel_rfl⟩,⟨by kernel_rfl,by kernel_rfl,by kernel_rfl⟩,⟨by kernel_rfl,by kernel_rfl,by kernel_rfl⟩,⟨by kernel_rfl,by kernel_rfl,by kernel_rfl⟩,⟨by kernel_rfl,by kernel_rfl,by kernel_rfl⟩,⟨by kernel_rfl,by kernel_rfl,by kernel_rfl⟩,⟨by kernel_rfl,by kernel_rfl,by kernel_rfl⟩,⟨by kernel_rfl,by kernel_rfl,by kernel_rfl⟩,⟨by kernel_rfl,by kernel_rfl,by kernel_rfl⟩,⟨by kernel_rfl,by kernel_rfl,by kernel_rfl⟩,trivial⟩
def x0n:Cx:=⟨z8a,[(22,(q1j [.ld (.ints []),.id] q5m))],false⟩
theorem y6n:q1c Tryz.prog x0n:=q0s q6t ⟨(q3y.coe [.ld (.ints []),.id] rfl),trivial⟩
def j7q:CtF
 |[.im (.ls (.ints l)),.pto [.val (.int .i64 v)]],[]=>some (l.length≤maxLen∧-65536≤v∧v≤65536,.bool (Cn.z0i v l),[])
 |_,_=>none
theorem z7e:q0c Tryz.prog 51 j7q:=by
 refine Sw (cx:=x0n) Tryz.f51 Tryz.func51 ?_
 intro wW wO wβ G0 args os p r outs hσ hp
 have hcx:=y6n
 unfold j7q at hσ
 split at hσ
 ·
  rename_i l v
  cases hσ
  refine⟨by kernel_rfl,?_⟩
  obtain⟨hm1,hm2,hm3⟩:=hp
  refine Sz hcx [] [] [] [] (Sq hcx [] [3] [0,1] [] [(l.length≤maxLen),((!(l.contains v))=true→((!(l.contains v))=true)),((!(l.contains v))=true→Fit (-v)),((!(l.contains v))=true→((!(l.contains v))=true)),((!(l.contains v))=true→((!(l.contains v))=true)),((!(l.contains v))=true→(l.length≤maxLen)),((l.contains v)=false→(!(l.contains v))=true)] ?_ (Zr (Ru hcx [])))
  ·
   refine ap ?_ (ap ?_ (ap ?_ (ap ?_ (ap ?_ (ap ?_ (ap (by exact q2j) az))))))<;>
    first|exact hm1|exact(fun _=>hm1)|(first|omega|exact id|exact q2j|exact vcG|exact vcH|(intro _;omega)|exact(fun _ h=>h)|(intro h;simp at h;omega)|(simp only[Qa8,Qb5,Qa3,Qa9,Qb6,Qb1];omega)|(intro h;simp[h];done))
 ·
  cases hσ
def k2h:Cx:=⟨z8a,[],false⟩
theorem x3w:q1c Tryz.prog k2h:=q0s q6t trivial
def y9f:CtF
 |[.im (.val (.int .i64 v))],[]=>some (True,.clo 51 [.pto [.int v]],[])
 |_,_=>none
theorem j2g:q0c Tryz.prog 24 y9f:=by
 refine Sw (cx:=k2h) Tryz.f24 Tryz.func24 ?_
 intro wW wO wβ G0 args os p r outs hσ hp
 have hcx:=x3w
 unfold y9f at hσ
 split at hσ
 ·
  rename_i v
  cases hσ
  refine⟨by kernel_rfl,?_⟩
  exact Sz hcx [(1000,.frz)] [1] [0] [] (Sz hcx [] [2] [1] [] (Zr (Ru hcx [])))
 ·
  cases hσ
def x1c:Cx:=⟨z8a,[],false⟩
theorem y5f:q1c Tryz.prog x1c:=q0s q6t trivial
def y7g:CtF
 |[.im (.ls (.intss c)),.im (.val (.int .i64 x))],[]=>some (True,.clo 89 [.pto [.ls (.intss c)],.pto [.int x]],[])
 |_,_=>none
theorem y6q:q0c Tryz.prog 52 y7g:=by
 refine Sw (cx:=x1c) Tryz.f52 Tryz.func52 ?_
 intro wW wO wβ G0 args os p r outs hσ hp
 have hcx:=y5f
 unfold y7g at hσ
 split at hσ
 ·
  rename_i c x
  cases hσ
  refine⟨by kernel_rfl,?_⟩
  exact Sz hcx [(1000,.frz),(1001,.frz)] [2,3] [0,1] [] (Sz hcx [] [4] [2,3] [] (Zr (Ru hcx [])))
 ·
  cases hσ
def k1r:Cx:=⟨z8a,[(48,z0k)],false⟩
theorem x3t:q1c Tryz.prog k1r:=q0s q6t ⟨q2t,trivial⟩
def y8l:CtF
 |[.im (.ls (.intss c))],[]=>some (c.length≤1000000∧∀l∈c,l.length≤1000000,.row 0,[some (.row 34 (.intss c))])
 |_,_=>none
theorem j1x:q0c Tryz.prog 21 y8l:=by
 refine Sw (cx:=k1r) Tryz.f21 Tryz.func21 ?_
 intro wW wO wβ G0 args os p r outs hσ hp
 have hcx:=x3t
 unfold y8l at hσ
 split at hσ
 ·
  rename_i c
  cases hσ
  refine⟨by kernel_rfl,?_⟩
  obtain⟨hm1,hm2⟩:=hp
  have hm3:∀k,k<c.length→(c.getD k []).length≤1000000:=fun k hk=>hm2 _ (Cn.q0t hk)
  refine Sz hcx [] [] [] [] (Sz hcx [] [3] [] [] (Zs (Sz hcx [] [6,7,8] [0] [] (Zb (Zw 3 10 34 (.intss []) (Lp (X:=Nat) (fun x0=>x0≤c.length) (fun x0=>([(3,.row 10),(6,.intss c),(7,.int (c.length:Int)),(8,.int (x0:Int))],[(10,.row 34 (.intss (c.take x0)))])) (fun x0=>c.length-x0) (0) ?_ (Ex 8 (congrArg AV.int (show 0=(0:Int)from(by first|rfl|omega|(simp;done)))) Eb) Hb fun k hI=>?_))))))
  ·
   show 0≤c.length
   omega
  ·
   replace hI:k≤c.length:=hI
   have hm4:=hm3 k
   have htl:(c.take k).length≤k:=by rw[Qd0];omega
   refine Sz hcx [] [9] [] [] (Zs (Zj (p:=((k:Int)<(c.length:Int))) (fun h0=>?_) fun h0=>?_))
   ·
    refine Zk (Ft (Zs (Zb (Sq hcx [] [5] [9] [] [((0:Int)≤(k:Int)∧(k:Int)<(c.length:Int))] ?_ (Tq hcx [(1004,.to 10)] [3] [5] [10] [((c.getD k []).length≤1000000000000),(((c.take k).length+[(c.getD k [])].length)*24≤140737488355328)] ?_ (Fb (Ft (Tq hcx [] [8] [] [] [Fit ((k:Int)+1)] ?_ (Lr (k+1) ?_ ?_ (Ex 8 (congrArg AV.int (show((k:Int)+1)=((k+1):Int)from(by first|rfl|omega|(simp;done)))) Eb) (Hx 10 (congrArg (fun x=>q0d.row 34 (.intss x)) (show((c.take k)++[(c.getD k [])])=(c.take (k+1))from(by exact(Cn.q6h (by omega)).symm))) Hb))))))))))
    ·
     refine ap ?_ az
     omega
    ·
     refine ap ?_ (ap ?_ az)<;>
      first|omega|(simp only[Qa8,Qb5,Qa3,Qa9,Qb6,Qb1];omega)
    ·
     refine ap ?_ az
     omega
    ·
     show(k+1)≤c.length
     omega
    ·
     show c.length-(k+1)<c.length-k
     omega
   ·
    exact Ze (Fe (Fe (Fs (Ft (Sz hcx [] [2] [9,3,6,7,8] [] (Zr (Fn [(10,.to 0)] [2] (Rv hcx rfl [true] (q1g (congrArg some (congrArg (fun x=>q0d.row 34 (.intss x)) (show(c.take k)=c from(by rw[show k=c.length from(by omega),Qd3])))) rfl)))))))))
 ·
  cases hσ
def x9d:Cx:=⟨z8a,[(54,(q1j [.ld (.ints [])] j7h)),(53,(q1j [.ld (.ints []),.ld (.ints []),.id] z3f)),(51,(q1j [.ld (.ints []),.id] j7q)),(24,y9f),(52,(q1j [.ld (.intss []),.id] y7g)),(21,(q1j [.ld (.intss [])] y8l))],false⟩
theorem x2a:q1c Tryz.prog x9d:=q0s q6t ⟨(z7b.coe [.ld (.ints [])] rfl),(j0r.coe [.ld (.ints []),.ld (.ints []),.id] rfl),(z7e.coe [.ld (.ints []),.id] rfl),j2g,(y6q.coe [.ld (.intss []),.id] rfl),(j1x.coe [.ld (.intss [])] rfl),trivial⟩
def y8n:CtF
 |[.agg [.im (.val (.int .i64 N)),.im (.ls (.intss L))],.im (.val (.int .i64 v)),.im (.val (.int .i64 many))],[]=>some (L.length≤10000∧(∀l∈L,l.length≤1000)∧1≤v∧v≤65536∧0≤many∧many≤65536,.tup [.agg [.int N,.row 0],.agg [.int v,.row 1],.bool (decide (((Cn.q2r L v many).length:Int)≤many))],[some (.row 34 (.intss (Cn.q2r L v many))),some (.row 34 (.intss (Cn.uOf L v)))])
 |_,_=>none
theorem j1z:q0c Tryz.prog 25 y8n:=by
 refine Sw (cx:=x9d) Tryz.f25 Tryz.func25 ?_
 intro wW wO wβ G0 args os p r outs hσ hp
 have hcx:=x2a
 have hmx:Tryz.prog.follows .mixedOrders=true:=by kernel_rfl
 unfold y8n at hσ
 split at hσ
 ·
  rename_i N L v many
  cases hσ
  refine⟨by kernel_rfl,?_⟩
  obtain⟨hm1,hm2,hm3,hm4,hm5,hm6⟩:=hp
  have hXX:(Cn.q2r L v many).length≤1000000∧∀l∈(Cn.q2r L v many),l.length≤1000000:=⟨by have:=Cn.u4h (v:=v) hm1 hm6;omega,fun l hl=>by have:=Cn.k4x hm2 l hl;omega⟩
  have hm7:∀k,k<L.length→(L.getD k []).length≤1000:=fun k hk=>hm2 _ (Cn.q0t hk)
  refine Sz hcx [(1003,.to 606),(1004,.to 607),(1000,.frz),(1001,.frz),(1002,.frz)] [3,4,5,6,7,8] [0,1,2] [] (Zc (Sd hcx hmx [0,1,3,0,8,7,63] [(606,.to 606),(607,.to 607)] [] [] [] [] az (Sq hcx [] [9] [] [] [(True)] ?_ (Zs (Zs (Zv 606 1 10 34 (.intss []) (Zv 607 1 11 34 (.intss []) (Tz hcx [] [26,27,28] [3] [] (Ft (Zb (Zn [(10,.to 10),(11,.to 11),(606,.to 606),(607,.to 607)] [4,5,6,7,8,9,26,27,28] (Lp (X:=Nat) (fun x0=>x0≤L.length) (fun x0=>([(4,.pto [.int v]),(5,.pto [.int many]),(6,.loc 606 0),(7,.loc 607 0),(8,.bool false),(9,.clo 51 [.pto [.int v]]),(26,.intss L),(27,.int (L.length:Int)),(28,.int (x0:Int))],[(10,.row 34 (.intss (Cn.xOf (L.take x0) v))),(11,.row 34 (.intss (Cn.uOf (L.take x0) v))),(606,.box [.int N,.row 10]),(607,.box [.int v,.row 11])])) (fun x0=>L.length-x0) (0) ?_ (Ex 28 (congrArg AV.int (show 0=(0:Int)from(by first|rfl|omega|(simp;done)))) Eb) (Hx 10 (congrArg (fun x=>q0d.row 34 (.intss x)) (show[]=(Cn.xOf (L.take 0) v)from(by simp[Cn.xOf]))) (Hx 11 (congrArg (fun x=>q0d.row 34 (.intss x)) (show[]=(Cn.uOf (L.take 0) v)from(by simp[Cn.uOf]))) Hb)) fun k hI=>?_))))))))))))
  ·
   refine ap ?_ az
   (constructor<;>omega)
  ·
   show 0≤L.length
   omega
  ·
   replace hI:k≤L.length:=hI
   have hxl:=Cn.y5l (c:=L.take k) (v:=v)
   have hul:=Cn.y7i (c:=L.take k) (v:=v)
   have htl:(L.take k).length≤k:=by rw[Qd0];omega
   refine Sz hcx [] [29] [] [] (Zs (Zj (p:=((k:Int)<(L.length:Int))) (fun h0=>?_) fun h0=>?_))
   ·
    refine Zk (Ft (Zs (Zb (Sq hcx [] [11] [29] [] [((0:Int)≤(k:Int)∧(k:Int)<(L.length:Int))] ?_ (Sq hcx [] [34] [] [] [((L.getD k []).length≤maxLen∧-65536≤v∧v≤65536)] ?_ (Zi (b:=Cn.z0i v (L.getD k [])) (fun h1=>?_) fun h1=>?_))))))
    ·
     refine ap ?_ az
     (first|omega|exact id|exact q2j|exact vcG|exact vcH|(intro _;omega)|exact(fun _ h=>h)|(intro h;simp at h;omega)|(simp only[Qa8,Qb5,Qa3,Qa9,Qb6,Qb1];omega)|(intro h;simp[h];done))
    ·
     refine ap ?_ az
     (have:=hm7 k (by omega);exact⟨by unfold maxLen;omega,by omega,by omega⟩)
    ·
     have hq:=h1
     refine Tq hcx [(1004,.to 11),(607,.to 607)] [] [34,11] [11] [(((Cn.uOf (L.take k) v).length+[(L.getD k [])].length)*24≤140737488355328)] ?_ (Fb (Ft (Tq hcx [] [28] [] [] [Fit ((k:Int)+1)] ?_ (Fn [(10,.to 10),(11,.to 11),(606,.to 606),(607,.to 607)] [4,5,6,7,8,9,26,27,28] (Lr (k+1) ?_ ?_ (Ex 28 (congrArg AV.int (show((k:Int)+1)=((k+1):Int)from(by first|rfl|omega|(simp;done)))) Eb) (Hx 10 (congrArg (fun x=>q0d.row 34 (.intss x)) (show(Cn.xOf (L.take k) v)=(Cn.xOf (L.take (k+1)) v)from(by first|exact(Cn.q9n (by omega) hq).2|exact(Cn.q9u (by omega) hq).1))) (Hx 11 (congrArg (fun x=>q0d.row 34 (.intss x)) (show((Cn.uOf (L.take k) v)++[(L.getD k [])])=(Cn.uOf (L.take (k+1)) v)from(by first|exact(Cn.q9n (by omega) hq).1|exact(Cn.q9u (by omega) hq).2))) Hb)))))))
     ·
      refine ap ?_ az
      (first|omega|exact id|exact q2j|exact vcG|exact vcH|(intro _;omega)|exact(fun _ h=>h)|(intro h;simp at h;omega)|(simp only[Qa8,Qb5,Qa3,Qa9,Qb6,Qb1];omega)|(intro h;simp[h];done))
     ·
      refine ap ?_ az
      (first|omega|exact id|exact q2j|exact vcG|exact vcH|(intro _;omega)|exact(fun _ h=>h)|(intro h;simp at h;omega)|(simp only[Qa8,Qb5,Qa3,Qa9,Qb6,Qb1];omega)|(intro h;simp[h];done))
     ·
      show(k+1)≤L.length
      omega
     ·
      show L.length-(k+1)<L.length-k
      omega
    ·
     have hq:=h1
     refine Tq hcx [(1004,.to 10),(606,.to 606)] [] [34,11] [10] [(((Cn.xOf (L.take k) v).length+[(L.getD k [])].length)*24≤140737488355328)] ?_ (Fb (Ft (Tq hcx [] [28] [] [] [Fit ((k:Int)+1)] ?_ (Fn [(10,.to 10),(11,.to 11),(606,.to 606),(607,.to 607)] [4,5,6,7,8,9,26,27,28] (Lr (k+1) ?_ ?_ (Ex 28 (congrArg AV.int (show((k:Int)+1)=((k+1):Int)from(by first|rfl|omega|(simp;done)))) Eb) (Hx 10 (congrArg (fun x=>q0d.row 34 (.intss x)) (show((Cn.xOf (L.take k) v)++[(L.getD k [])])=(Cn.xOf (L.take (k+1)) v)from(by first|exact(Cn.q9n (by omega) hq).2|exact(Cn.q9u (by omega) hq).1))) (Hx 11 (congrArg (fun x=>q0d.row 34 (.intss x)) (show(Cn.uOf (L.take k) v)=(Cn.uOf (L.take (k+1)) v)from(by first|exact(Cn.q9n (by omega) hq).1|exact(Cn.q9u (by omega) hq).2))) Hb)))))))
     ·
      refine ap ?_ az
      (first|omega|exact id|exact q2j|exact vcG|exact vcH|(intro _;omega)|exact(fun _ h=>h)|(intro h;simp at h;omega)|(simp only[Qa8,Qb5,Qa3,Qa9,Qb6,Qb1];omega)|(intro h;simp[h];done))
     ·
      refine ap ?_ az
      (first|omega|exact id|exact q2j|exact vcG|exact vcH|(intro _;omega)|exact(fun _ h=>h)|(intro h;simp at h;omega)|(simp only[Qa8,Qb5,Qa3,Qa9,Qb6,Qb1];omega)|(intro h;simp[h];done))
     ·
      show(k+1)≤L.length
      omega
     ·
      show L.length-(k+1)<L.length-k
      omega
   ·
    have hkL:(L.take k)=L:=by rw[show k=L.length from(by omega),Qd3]
    have hu1:(Cn.uOf (L.take k) v).length≤10000:=by have:=Cn.y7i (c:=(L.take k)) (v:=v);rw[hkL]at*;omega
    have hu2:∀l∈(Cn.uOf (L.take k) v),l.length≤1000:=fun l hl=>hm2 l (by rw[hkL]at hl;exact(List.mem_filter.1 hl).1)
    have hit:(Cn.uOf (L.take k) v).length≤maxLen∧(∀l∈(Cn.uOf (L.take k) v),l.length≤maxLen):=⟨by unfold maxLen;omega,fun l hl=>by have:=hu2 l hl;unfold maxLen;omega⟩
    have hUU:(Cn.uOf (L.take k) v).length≤1000000∧∀l∈(Cn.uOf (L.take k) v),l.length≤1000000:=⟨by omega,fun l hl=>by have:=hu2 l hl;omega⟩
    have hpl:∀p,p<(Cn.q0l (Cn.uOf (L.take k) v) v).length→((Cn.q0l (Cn.uOf (L.take k) v) v).getD p []).length≤1000:=fun p hp=>hu2 _ (List.mem_filter.1 (Cn.q0t hp)).1
    have hql:∀q,q<(Cn.q0l (Cn.uOf (L.take k) v) (-v)).length→((Cn.q0l (Cn.uOf (L.take k) v) (-v)).getD q []).length≤1000:=fun q hq=>hu2 _ (List.mem_filter.1 (Cn.q0t hq)).1
    refine Ze (Fe (Fe (Fs (Ft (Zs (Zl (Ft (Zs (Zs (Zn [(10,.to 10),(606,.to 606),(607,.to 607),(11,.frz)] [29,4,5,6,7,8,9,26,27,28] (Tq hcx [] [51] [29,9,26,27,28] [] [(True)] ?_ (Ft (Zb ?_)))))))))))))
    ·
     refine ap ?_ az
     (constructor<;>omega)
    refine z9b (ρ:=[(606,.to 0),(607,.to 1),(10,.to 10)]) (keys:=[51,4,5,6,7,8]) (E':=[(51,.clo 89 [.pto [.ls (.intss (Cn.uOf (L.take k) v))],.pto [.int v]]),(4,.pto [.int v]),(5,.pto [.int many]),(6,.loc 0 0),(7,.loc 1 0),(8,.bool false)]) (H':=[(0,.box [.int N,.row 10]),(1,.box [.int v,.intss (Cn.uOf (L.take k) v)]),(10,.row 34 (.intss (Cn.xOf (L.take k) v)))]) (by kernel_rfl) ?_
    refine z9t (X:=Unit) rfl x0g (caps:=[.pto [.ls (.intss (Cn.uOf (L.take k) v))],.pto [.int v]]) (by kernel_rfl) (N:=(Cn.q0l (Cn.uOf (L.take k) v) v).length) (el:=fun p=>[.ints ((Cn.q0l (Cn.uOf (L.take k) v) v).getD p [])]) rfl (by kernel_rfl) ?_ 2 970 989 (by kernel_rfl) (fun p x0=>Cn.okX (L.take k) v many p 0) (fun p x0=>[(0,.box [.int N,.row 10]),(1,.box [.int v,.intss (Cn.uOf (L.take k) v)]),(10,.row 34 (.intss (Cn.stX (L.take k) v p 0)))]) (fun p x0=>[(51,.clo 89 [.pto [.ls (.intss (Cn.uOf (L.take k) v))],.pto [.int v]]),(4,.pto [.int v]),(5,.pto [.int many]),(6,.loc 0 0),(7,.loc 1 0),(8,.bool false),(12,.loc 612 0)]) (fun p x0=>[(0,.box [.int N,.row 10]),(1,.box [.int v,.intss (Cn.uOf (L.take k) v)]),(10,.row 34 (.intss (Cn.stX (L.take k) v p 0))),(612,.box [.ints ((Cn.q0l (Cn.uOf (L.take k) v) v).getD p [])])]) (()) ?_ ?_ (fun _ _=>rfl) (fun _ _ _=>by kernel_rfl) (fun _ _=>by kernel_rfl) ?_ ?_ ?_
    ·
     exact⟨hit.1,hit.2,by omega,by omega⟩
    ·
     show Cn.okX (L.take k) v many 0 0
     exact Cn.u4m
    ·
     exact Hx 10 (congrArg (fun x=>q0d.row 34 (.intss x)) (show(Cn.xOf (L.take k) v)=(Cn.stX (L.take k) v 0 0)from(by exact Cn.k3w))) Hb
    ·
     intro Wr Or βr Gr l0 r0 p un hi0 hI0
     replace hI0:Cn.okX (L.take k) v many p 0:=hI0
     change Tri _ [(52,.ints ((Cn.q0l (Cn.uOf (L.take k) v) v).getD p [])),(51,.clo 89 [.pto [.ls (.intss (Cn.uOf (L.take k) v))],.pto [.int v]]),(4,.pto [.int v]),(5,.pto [.int many]),(6,.loc 0 0),(7,.loc 1 0),(8,.bool false)] [(970,.other l0 (.loop r0)),(0,.box [.int N,.row 10]),(1,.box [.int v,.intss (Cn.uOf (L.take k) v)]),(10,.row 34 (.intss (Cn.stX (L.take k) v p 0)))] _ _
     refine Zt (Tz hcx [(1000,.to 612)] [12] [52] [] (Fn [(970,.to 970),(0,.to 0),(1,.to 1),(10,.to 10),(612,.to 612)] [4,5,6,7,8,12,51] ?_))
     refine q9z ?_ ?_
     ·
      exact Eb
     ·
      exact Hb
    ·
     intro Wr Or βr Gr l0 r0 p un hi0 hI0
     replace hI0:Cn.okX (L.take k) v many p 0:=hI0
     change Tri _ [(51,.clo 89 [.pto [.ls (.intss (Cn.uOf (L.take k) v))],.pto [.int v]]),(4,.pto [.int v]),(5,.pto [.int many]),(6,.loc 0 0),(7,.loc 1 0),(8,.bool false),(12,.loc 612 0)] [(970,.other l0 (.loop r0)),(0,.box [.int N,.row 10]),(1,.box [.int v,.intss (Cn.uOf (L.take k) v)]),(10,.row 34 (.intss (Cn.stX (L.take k) v p 0))),(612,.box [.ints ((Cn.q0l (Cn.uOf (L.take k) v) v).getD p [])])] _ _
     refine Zt (Zb (Sq hcx [] [57] [51] [] [Fit (-v),(True)] ?_ (Zb ?_)))
     ·
      refine ap ?_ (ap ?_ az)<;>
       first|(first|omega|exact id|exact q2j|exact vcG|exact vcH|(intro _;omega)|exact(fun _ h=>h)|(intro h;simp at h;omega)|(simp only[Qa8,Qb5,Qa3,Qa9,Qb6,Qb1];omega)|(intro h;simp[h];done))|(constructor<;>omega)
     refine z9b (ρ:=[(0,.to 0),(1,.to 1),(612,.to 2),(10,.to 10),(970,.to 970)]) (keys:=[57,4,5,6,7,8,12]) (E':=[(57,.clo 89 [.pto [.ls (.intss (Cn.uOf (L.take k) v))],.pto [.int (-v)]]),(4,.pto [.int v]),(5,.pto [.int many]),(6,.loc 0 0),(7,.loc 1 0),(8,.bool false),(12,.loc 2 0)]) (H':=[(0,.box [.int N,.row 10]),(1,.box [.int v,.intss (Cn.uOf (L.take k) v)]),(2,.box [.ints ((Cn.q0l (Cn.uOf (L.take k) v) v).getD p [])]),(10,.row 34 (.intss (Cn.stX (L.take k) v p 0))),(970,.other l0 (.loop r0))]) (by kernel_rfl) ?_
     refine x4u (X:=Unit) 970 l0 r0 rfl rfl x0g (caps:=[.pto [.ls (.intss (Cn.uOf (L.take k) v))],.pto [.int (-v)]]) (by kernel_rfl) (N:=(Cn.q0l (Cn.uOf (L.take k) v) (-v)).length) (el:=fun q=>[.ints ((Cn.q0l (Cn.uOf (L.take k) v) (-v)).getD q [])]) rfl (by kernel_rfl) ?_ 3 971 (by kernel_rfl) (fun q x0=>Cn.okX (L.take k) v many p q) (fun q x0=>[(0,.box [.int N,.row 10]),(1,.box [.int v,.intss (Cn.uOf (L.take k) v)]),(2,.box [.ints ((Cn.q0l (Cn.uOf (L.take k) v) v).getD p [])]),(10,.row 34 (.intss (Cn.stX (L.take k) v p q))),(970,.other l0 (.loop r0))]) (fun q x0=>[(57,.clo 89 [.pto [.ls (.intss (Cn.uOf (L.take k) v))],.pto [.int (-v)]]),(4,.pto [.int v]),(5,.pto [.int many]),(6,.loc 0 0),(7,.loc 1 0),(8,.bool false),(12,.loc 2 0),(13,.ints ((Cn.q0l (Cn.uOf (L.take k) v) (-v)).getD q []))]) (fun q x0=>[(0,.box [.int N,.row 10]),(1,.box [.int v,.intss (Cn.uOf (L.take k) v)]),(2,.box [.ints ((Cn.q0l (Cn.uOf (L.take k) v) v).getD p [])]),(10,.row 34 (.intss (Cn.stX (L.take k) v p q))),(970,.other l0 (.loop r0))]) (()) ?_ ?_ (fun _ _=>rfl) (fun _ _ _=>by kernel_rfl) ?_ ?_ ?_
     ·
      exact⟨hit.1,hit.2,by omega,by omega⟩
     ·
      show Cn.okX (L.take k) v many p 0
      exact hI0
     ·
      exact Hb
     ·
      intro Wr Or βr Gr l1 r1 q un2 hi1 hI1
      replace hI1:Cn.okX (L.take k) v many p q:=hI1
      have hsl:=Cn.u1f (by rw[hkL];exact hm1) hm6 hI1
      change Tri _ [(58,.ints ((Cn.q0l (Cn.uOf (L.take k) v) (-v)).getD q [])),(57,.clo 89 [.pto [.ls (.intss (Cn.uOf (L.take k) v))],.pto [.int (-v)]]),(4,.pto [.int v]),(5,.pto [.int many]),(6,.loc 0 0),(7,.loc 1 0),(8,.bool false),(12,.loc 2 0)] [(971,.other l1 (.loop r1)),(0,.box [.int N,.row 10]),(1,.box [.int v,.intss (Cn.uOf (L.take k) v)]),(2,.box [.ints ((Cn.q0l (Cn.uOf (L.take k) v) v).getD p [])]),(10,.row 34 (.intss (Cn.stX (L.take k) v p q))),(970,.other l0 (.loop r0))] _ _
      refine Zt (Tz hcx [] [13] [58] [] ?_)
      refine q9z ?_ ?_
      ·
       exact Eb
      ·
       exact Hb
     ·
      intro Wr Or βr Gr l1 r1 q un2 hi1 hI1
      replace hI1:Cn.okX (L.take k) v many p q:=hI1
      have hsl:=Cn.u1f (by rw[hkL];exact hm1) hm6 hI1
      change Tri _ [(57,.clo 89 [.pto [.ls (.intss (Cn.uOf (L.take k) v))],.pto [.int (-v)]]),(4,.pto [.int v]),(5,.pto [.int many]),(6,.loc 0 0),(7,.loc 1 0),(8,.bool false),(12,.loc 2 0),(13,.ints ((Cn.q0l (Cn.uOf (L.take k) v) (-v)).getD q []))] [(971,.other l1 (.loop r1)),(0,.box [.int N,.row 10]),(1,.box [.int v,.intss (Cn.uOf (L.take k) v)]),(2,.box [.ints ((Cn.q0l (Cn.uOf (L.take k) v) v).getD p [])]),(10,.row 34 (.intss (Cn.stX (L.take k) v p q))),(970,.other l0 (.loop r0))] _ _
      refine Zt (Zb (Sq hcx [(1003,.to 263)] [14] [57,4,8,12,13] [] [(((Cn.q0l (Cn.uOf (L.take k) v) v).getD p []).length≤100000∧((Cn.q0l (Cn.uOf (L.take k) v) (-v)).getD q []).length≤100000∧Fit v)] ?_ (Zs (Sq hcx [] [17] [] [] [((Cn.q3w ((Cn.q0l (Cn.uOf (L.take k) v) v).getD p []) ((Cn.q0l (Cn.uOf (L.take k) v) (-v)).getD q []) v).length≤1000000)] ?_ (Sz hcx [] [71] [17] [] (Zi (b:=Cn.q8f (Cn.q3w ((Cn.q0l (Cn.uOf (L.take k) v) v).getD p []) ((Cn.q0l (Cn.uOf (L.take k) v) (-v)).getD q []) v)) (fun h2=>?_) fun h2=>?_))))))
      ·
       refine ap ?_ az
       exact⟨by have:=hpl p hi0;omega,by have:=hql q hi1;omega,by omega,by omega⟩
      ·
       refine ap ?_ az
       (have:=hpl p hi0;have:=hql q hi1;have:=Cn.y8c ((Cn.q0l (Cn.uOf (L.take k) v) v).getD p []) ((Cn.q0l (Cn.uOf (L.take k) v) (-v)).getD q []) v;omega)
      ·
       have ht:=h2
       refine Ze (Fe (Fs (Fn [(971,.to 971),(0,.to 0),(1,.to 1),(2,.to 2),(10,.to 10),(970,.to 970)] [] ?_)))
       refine q5l (()) ?_ ?_
       ·
        show Cn.okX (L.take k) v many p (q+1)
        exact Cn.u3p hi1 ht hI1
       ·
        exact Hx 10 (congrArg (fun x=>q0d.row 34 (.intss x)) (show(Cn.stX (L.take k) v p q)=(Cn.stX (L.take k) v p (q+1))from(by first|exact Cn.y3f hi1 ht|exact Cn.k0a hi1 ht))) Hb
      ·
       have ht:=h2
       refine Zk (Ft (Sq hcx [(0,.to 0),(1004,.to 10)] [] [71,14] [263,10] [(((Cn.stX (L.take k) v p q).length+[(Cn.q3w ((Cn.q0l (Cn.uOf (L.take k) v) v).getD p []) ((Cn.q0l (Cn.uOf (L.take k) v) (-v)).getD q []) v)].length)*24≤140737488355328)] ?_ (Sz hcx [] [82] [] [] (Zj (p:=((((Cn.stX (L.take k) v p q)++[(Cn.q3w ((Cn.q0l (Cn.uOf (L.take k) v) v).getD p []) ((Cn.q0l (Cn.uOf (L.take k) v) (-v)).getD q []) v)]).length:Int)>many)) (fun h3=>?_) fun h3=>?_))))
       ·
        refine ap ?_ az
        (first|omega|exact id|exact q2j|exact vcG|exact vcH|(intro _;omega)|exact(fun _ h=>h)|(intro h;simp at h;omega)|(simp only[Qa8,Qb5,Qa3,Qa9,Qb6,Qb1];omega)|(intro h;simp[h];done))
       ·
        have hOX:(Cn.q2r L v many)=(Cn.stX (L.take k) v p q)++[(Cn.q3w ((Cn.q0l (Cn.uOf (L.take k) v) v).getD p []) ((Cn.q0l (Cn.uOf (L.take k) v) (-v)).getD q []) v)]:=by have:=Cn.u9q hi0 hi1 ht hI1 h3;rw[hkL]at this⊢;exact this
        refine Ze (Fo ?_)
        refine j6c (ρ:=[(971,.to 971),(0,.to 0),(1,.to 1),(2,.to 2),(10,.to 10),(970,.to 970)]) (keys:=[]) (E':=[]) (H':=[(971,.other l1 (.loop r1)),(0,.box [.int N,.row 10]),(1,.box [.int v,.intss (Cn.uOf (L.take k) v)]),(2,.box [.ints ((Cn.q0l (Cn.uOf (L.take k) v) v).getD p [])]),(10,.row 34 (.intss ((Cn.stX (L.take k) v p q)++[(Cn.q3w ((Cn.q0l (Cn.uOf (L.take k) v) v).getD p []) ((Cn.q0l (Cn.uOf (L.take k) v) (-v)).getD q []) v)]))),(970,.other l0 (.loop r0))]) (by kernel_rfl) ?_
        refine y1t [(0,.box [.int N,.row 10]),(1,.box [.int v,.intss (Cn.uOf (L.take k) v)]),(2,.box [.ints ((Cn.q0l (Cn.uOf (L.take k) v) v).getD p [])]),(10,.row 34 (.intss ((Cn.stX (L.take k) v p q)++[(Cn.q3w ((Cn.q0l (Cn.uOf (L.take k) v) v).getD p []) ((Cn.q0l (Cn.uOf (L.take k) v) (-v)).getD q []) v)]))),(970,.other l0 (.loop r0))] rfl (by kernel_rfl) ?_
        change Fin _ [(57,.clo 89 [.pto [.ls (.intss (Cn.uOf (L.take k) v))],.pto [.int (-v)]]),(4,.pto [.int v]),(5,.pto [.int many]),(6,.loc 0 0),(7,.loc 1 0),(8,.bool false),(12,.loc 2 0)] [(0,.box [.int N,.row 10]),(1,.box [.int v,.intss (Cn.uOf (L.take k) v)]),(2,.box [.ints ((Cn.q0l (Cn.uOf (L.take k) v) v).getD p [])]),(10,.row 34 (.intss ((Cn.stX (L.take k) v p q)++[(Cn.q3w ((Cn.q0l (Cn.uOf (L.take k) v) v).getD p []) ((Cn.q0l (Cn.uOf (L.take k) v) (-v)).getD q []) v)]))),(970,.other l0 (.loop r0))] _ _
        refine Zf (Fo (Fo ?_))
        refine j6c (ρ:=[(970,.to 970),(0,.to 0),(1,.to 1),(10,.to 10)]) (keys:=[]) (E':=[]) (H':=[(970,.other l0 (.loop r0)),(0,.box [.int N,.row 10]),(1,.box [.int v,.intss (Cn.uOf (L.take k) v)]),(10,.row 34 (.intss ((Cn.stX (L.take k) v p q)++[(Cn.q3w ((Cn.q0l (Cn.uOf (L.take k) v) v).getD p []) ((Cn.q0l (Cn.uOf (L.take k) v) (-v)).getD q []) v)])))]) (by kernel_rfl) ?_
        refine y1t [(0,.box [.int N,.row 10]),(1,.box [.int v,.intss (Cn.uOf (L.take k) v)]),(10,.row 34 (.intss ((Cn.stX (L.take k) v p q)++[(Cn.q3w ((Cn.q0l (Cn.uOf (L.take k) v) v).getD p []) ((Cn.q0l (Cn.uOf (L.take k) v) (-v)).getD q []) v)])))] rfl (by kernel_rfl) ⟨by kernel_rfl,fun D0=>?_⟩
        change Fin _ [(51,.clo 89 [.pto [.ls (.intss (Cn.uOf (L.take k) v))],.pto [.int v]]),(4,.pto [.int v]),(5,.pto [.int many]),(6,.loc 0 0),(7,.loc 1 0),(8,.bool false)] [(989,.other D0 dfr),(0,.box [.int N,.row 10]),(1,.box [.int v,.intss (Cn.uOf (L.take k) v)]),(10,.row 34 (.intss ((Cn.stX (L.take k) v p q)++[(Cn.q3w ((Cn.q0l (Cn.uOf (L.take k) v) v).getD p []) ((Cn.q0l (Cn.uOf (L.take k) v) (-v)).getD q []) v)])))] _ _
        refine Zf (Fs (Ft (Zs (Zn [(0,.to 0),(1,.to 1),(989,.to 989),(10,.frz)] [51,4,5,6,7,8] (Td hcx hmx [0,1,3,0,8,31,7,127,255,511] [(0,.to 0),(1,.to 1),(1002,.to 285),(1005,.to 288)] [] [51,4,8] [] [(((Cn.stX (L.take k) v p q)++[(Cn.q3w ((Cn.q0l (Cn.uOf (L.take k) v) v).getD p []) ((Cn.q0l (Cn.uOf (L.take k) v) (-v)).getD q []) v)]).length≤1000000∧∀l∈((Cn.stX (L.take k) v p q)++[(Cn.q3w ((Cn.q0l (Cn.uOf (L.take k) v) v).getD p []) ((Cn.q0l (Cn.uOf (L.take k) v) (-v)).getD q []) v)]),l.length≤1000000),((Cn.uOf (L.take k) v).length≤1000000∧∀l∈(Cn.uOf (L.take k) v),l.length≤1000000)] ?_ (Ft (Sd hcx hmx [0,0,0,4,12,0,60,13,143,511] [(0,.to 0),(1,.to 1)] [8] [5] [] [] az (Zr (Fx (Fn [(285,.to 0),(288,.to 1),(989,.to 989),(0,.to 990),(1,.to 991)] [6,7,8] (Fq [(6,.loc 990 0),(7,.loc 991 0),(8,.bool (decide ((((Cn.stX (L.take k) v p q)++[(Cn.q3w ((Cn.q0l (Cn.uOf (L.take k) v) v).getD p []) ((Cn.q0l (Cn.uOf (L.take k) v) (-v)).getD q []) v)]).length:Int)≤many)))] [(0,.row 34 (.intss ((Cn.stX (L.take k) v p q)++[(Cn.q3w ((Cn.q0l (Cn.uOf (L.take k) v) v).getD p []) ((Cn.q0l (Cn.uOf (L.take k) v) (-v)).getD q []) v)]))),(1,.row 34 (.intss (Cn.uOf (L.take k) v))),(989,.other D0 dfr),(990,.box [.int N,.row 0]),(991,.box [.int v,.row 1])] (q9m _ rfl [(989,D0)] rfl rfl ⟨rfl,trivial⟩ hcx (avs:=[.agg [.int N,.row 0],.agg [.int v,.row 1],.bool (decide ((((Cn.stX (L.take k) v p q)++[(Cn.q3w ((Cn.q0l (Cn.uOf (L.take k) v) v).getD p []) ((Cn.q0l (Cn.uOf (L.take k) v) (-v)).getD q []) v)]).length:Int)≤many))]) (by kernel_rfl) (congrArg AV.tup (q0f rfl (q0f rfl (q0f (congrArg AV.bool (show(decide ((((Cn.stX (L.take k) v p q)++[(Cn.q3w ((Cn.q0l (Cn.uOf (L.take k) v) v).getD p []) ((Cn.q0l (Cn.uOf (L.take k) v) (-v)).getD q []) v)]).length:Int)≤many))=(decide (((Cn.q2r L v many).length:Int)≤many))from(by rw[hOX]))) rfl)))) [true,true] (Eq.trans (show _=[some (.row 34 (.intss ((Cn.stX (L.take k) v p q)++[(Cn.q3w ((Cn.q0l (Cn.uOf (L.take k) v) v).getD p []) ((Cn.q0l (Cn.uOf (L.take k) v) (-v)).getD q []) v)]))),some (.row 34 (.intss (Cn.uOf (L.take k) v)))]from by kernel_rfl) (q1g (congrArg some (congrArg (fun x=>q0d.row 34 (.intss x)) (show((Cn.stX (L.take k) v p q)++[(Cn.q3w ((Cn.q0l (Cn.uOf (L.take k) v) v).getD p []) ((Cn.q0l (Cn.uOf (L.take k) v) (-v)).getD q []) v)])=(Cn.q2r L v many)from(by exact hOX.symm)))) (q1g (congrArg some (congrArg (fun x=>q0d.row 34 (.intss x)) (show(Cn.uOf (L.take k) v)=(Cn.uOf L v)from(by rw[hkL])))) rfl)))))))))))))))
        ·
         refine ap ?_ (ap ?_ az)<;>
          first|(rw[←hOX];exact hXX)|exact hUU
       ·
        have hle:=h3
        refine Zk (Fb (Fn [(971,.to 971),(0,.to 0),(1,.to 1),(2,.to 2),(10,.to 10),(970,.to 970)] [] ?_))
        refine q5l (()) ?_ ?_
        ·
         show Cn.okX (L.take k) v many p (q+1)
         exact Cn.u7t hi1 ht (by first|exact Int.not_lt.1 hle|exact hle|omega)
        ·
         exact Hx 10 (congrArg (fun x=>q0d.row 34 (.intss x)) (show((Cn.stX (L.take k) v p q)++[(Cn.q3w ((Cn.q0l (Cn.uOf (L.take k) v) v).getD p []) ((Cn.q0l (Cn.uOf (L.take k) v) (-v)).getD q []) v)])=(Cn.stX (L.take k) v p (q+1))from(by first|exact Cn.y3f hi1 ht|exact Cn.k0a hi1 ht))) Hb
     ·
      intro un2 hI1
      replace hI1:Cn.okX (L.take k) v many p ((Cn.q0l (Cn.uOf (L.take k) v) (-v)).length):=hI1
      change Fin _ [(57,.clo 89 [.pto [.ls (.intss (Cn.uOf (L.take k) v))],.pto [.int (-v)]]),(4,.pto [.int v]),(5,.pto [.int many]),(6,.loc 0 0),(7,.loc 1 0),(8,.bool false),(12,.loc 2 0)] [(0,.box [.int N,.row 10]),(1,.box [.int v,.intss (Cn.uOf (L.take k) v)]),(2,.box [.ints ((Cn.q0l (Cn.uOf (L.take k) v) v).getD p [])]),(10,.row 34 (.intss (Cn.stX (L.take k) v p ((Cn.q0l (Cn.uOf (L.take k) v) (-v)).length)))),(970,.other l0 (.loop r0))] _ _
      refine Zf (Fb (Fb (Fn [(970,.to 970),(0,.to 0),(1,.to 1),(10,.to 10)] [] ?_)))
      refine q5l (()) ?_ ?_
      ·
       show Cn.okX (L.take k) v many (p+1) 0
       exact Cn.u5k hi0 hI1
      ·
       exact Hx 10 (congrArg (fun x=>q0d.row 34 (.intss x)) (show(Cn.stX (L.take k) v p ((Cn.q0l (Cn.uOf (L.take k) v) (-v)).length))=(Cn.stX (L.take k) v (p+1) 0)from(by exact Cn.x9e hi0))) Hb
    ·
     intro D0 un hI0
     replace hI0:Cn.okX (L.take k) v many ((Cn.q0l (Cn.uOf (L.take k) v) v).length) 0:=hI0
     have hOX:(Cn.q2r L v many)=(Cn.stX (L.take k) v (Cn.q0l (Cn.uOf (L.take k) v) v).length 0):=by have:=Cn.u8j hI0;rw[hkL]at this⊢;exact this
     change Fin _ [(51,.clo 89 [.pto [.ls (.intss (Cn.uOf (L.take k) v))],.pto [.int v]]),(4,.pto [.int v]),(5,.pto [.int many]),(6,.loc 0 0),(7,.loc 1 0),(8,.bool false)] [(989,.other D0 dfr),(0,.box [.int N,.row 10]),(1,.box [.int v,.intss (Cn.uOf (L.take k) v)]),(10,.row 34 (.intss (Cn.stX (L.take k) v ((Cn.q0l (Cn.uOf (L.take k) v) v).length) 0)))] _ _
     refine Zf (Fb (Ft (Zs (Zn [(0,.to 0),(1,.to 1),(989,.to 989),(10,.frz)] [51,4,5,6,7,8] (Td hcx hmx [0,1,3,0,8,31,7,127,255,511] [(0,.to 0),(1,.to 1),(1002,.to 285),(1005,.to 288)] [] [51,4,8] [] [((Cn.stX (L.take k) v ((Cn.q0l (Cn.uOf (L.take k) v) v).length) 0).length≤1000000∧∀l∈(Cn.stX (L.take k) v ((Cn.q0l (Cn.uOf (L.take k) v) v).length) 0),l.length≤1000000),((Cn.uOf (L.take k) v).length≤1000000∧∀l∈(Cn.uOf (L.take k) v),l.length≤1000000)] ?_ (Ft (Sd hcx hmx [0,0,0,4,12,0,60,13,143,511] [(0,.to 0),(1,.to 1)] [8] [5] [] [] az (Zr (Fx (Fn [(285,.to 0),(288,.to 1),(989,.to 989),(0,.to 990),(1,.to 991)] [6,7,8] (Fq [(6,.loc 990 0),(7,.loc 991 0),(8,.bool (decide (((Cn.stX (L.take k) v ((Cn.q0l (Cn.uOf (L.take k) v) v).length) 0).length:Int)≤many)))] [(0,.row 34 (.intss (Cn.stX (L.take k) v ((Cn.q0l (Cn.uOf (L.take k) v) v).length) 0))),(1,.row 34 (.intss (Cn.uOf (L.take k) v))),(989,.other D0 dfr),(990,.box [.int N,.row 0]),(991,.box [.int v,.row 1])] (q9m _ rfl [(989,D0)] rfl rfl ⟨rfl,trivial⟩ hcx (avs:=[.agg [.int N,.row 0],.agg [.int v,.row 1],.bool (decide (((Cn.stX (L.take k) v ((Cn.q0l (Cn.uOf (L.take k) v) v).length) 0).length:Int)≤many))]) (by kernel_rfl) (congrArg AV.tup (q0f rfl (q0f rfl (q0f (congrArg AV.bool (show(decide (((Cn.stX (L.take k) v ((Cn.q0l (Cn.uOf (L.take k) v) v).length) 0).length:Int)≤many))=(decide (((Cn.q2r L v many).length:Int)≤many))from(by rw[hOX]))) rfl)))) [true,true] (Eq.trans (show _=[some (.row 34 (.intss (Cn.stX (L.take k) v ((Cn.q0l (Cn.uOf (L.take k) v) v).length) 0))),some (.row 34 (.intss (Cn.uOf (L.take k) v)))]from by kernel_rfl) (q1g (congrArg some (congrArg (fun x=>q0d.row 34 (.intss x)) (show(Cn.stX (L.take k) v ((Cn.q0l (Cn.uOf (L.take k) v) v).length) 0)=(Cn.q2r L v many)from(by exact hOX.symm)))) (q1g (congrArg some (congrArg (fun x=>q0d.row 34 (.intss x)) (show(Cn.uOf (L.take k) v)=(Cn.uOf L v)from(by rw[hkL])))) rfl)))))))))))))))
     ·
      refine ap ?_ (ap ?_ az)<;>
       first|(rw[←hOX];exact hXX)|exact hUU
 ·
  cases hσ
def y8v:Cx:=⟨z8a,[(18,(q1j [.agg [.id,.ld (.intss [])]] z2r)),(25,(q1j [.agg [.id,.ld (.intss [])],.id,.id] y8n))],false⟩
theorem y5j:q1c Tryz.prog y8v:=q0s q6t ⟨(q8y.coe [.agg [.id,.ld (.intss [])]] rfl),(j1z.coe [.agg [.id,.ld (.intss [])],.id,.id] rfl),trivial⟩
def y4j:CtF
 |[.agg [.im (.val (.int .i64 N)),.im (.ls (.intss L))],.im (.val (.int .i64 v))],[]=>some (L.length≤10000∧(∀l∈L,l.length≤1000),.tup [.agg [.int (Cn.ouN N L v),.row 0],.agg [.int (Cn.ouV N L v),.row 1],.int (Cn.ouE N L v)],[some (.row 34 (.intss (Cn.ouX N L v))),some (.row 34 (.intss (Cn.ouU N L v)))])
 |_,_=>none
theorem y5u:q0c Tryz.prog 12 y4j:=by
 refine Sw (cx:=y8v) Tryz.f12 Tryz.func12 ?_
 intro wW wO wβ G0 args os p r outs hσ hp
 have hcx:=y5j
 have hmx:Tryz.prog.follows .mixedOrders=true:=by kernel_rfl
 unfold y4j at hσ
 split at hσ
 ·
  rename_i N L v
  cases hσ
  refine⟨by kernel_rfl,?_⟩
  obtain⟨hm1,hm2⟩:=hp
  have hck:L.length≤maxLen∧∀l∈L,l.length≤maxLen:=⟨by unfold maxLen;omega,fun l hl=>by have:=hm2 l hl;unfold maxLen;omega⟩
  refine Sz hcx [(1001,.to 604),(1002,.to 605),(1000,.frz)] [2,4,5] [0] [] (Zs (Sq hcx [] [6] [] [] [(L.length≤maxLen∧∀l∈L,l.length≤maxLen)] ?_ (Sz hcx [] [13] [] [] (Zx (a:=(Cn.q3x N L)) (b:=0) (fun h0=>?_) fun h0=>?_))))
  ·
   refine ap ?_ az
   exact hck
  ·
   obtain⟨hA,hB,hC,hD,hE⟩:=Cn.u1z (v:=v) (Cn.u7u h0) h0
   exact Sd hcx hmx [0,0,0,1,11,31] [(604,.to 604),(605,.to 605)] [6] [13,2,1] [] [] az (Zr (Fr (Fv 604 1 700 34 (.intss []) (Fv 605 1 701 34 (.intss []) (Fn [(700,.to 0),(701,.to 1),(604,.to 990),(605,.to 991)] [4,5,6] (Rv hcx (congrArg AV.tup (q0f (congrArg AV.agg (q0f (congrArg AV.int (show 0=(Cn.ouN N L v)from(by first|exact hA.symm|exact hC.symm|exact hE.symm))) rfl)) (q0f (congrArg AV.agg (q0f (congrArg AV.int (show 0=(Cn.ouV N L v)from(by first|exact hA.symm|exact hC.symm|exact hE.symm))) rfl)) (q0f (congrArg AV.int (show(Cn.q3x N L)=(Cn.ouE N L v)from(by first|exact hA.symm|exact hC.symm|exact hE.symm))) rfl)))) [true,true] (q1g (congrArg some (congrArg (fun x=>q0d.row 34 (.intss x)) (show[]=(Cn.ouX N L v)from(by exact hB.symm)))) (q1g (congrArg some (congrArg (fun x=>q0d.row 34 (.intss x)) (show[]=(Cn.ouU N L v)from(by exact hD.symm)))) rfl))))))))
  ·
   have hc0:Cn.q3x N L=0:=h0
   have hN:=Cn.q6b.1 hc0
   refine Zk (Ft (Zs (Sq hcx [] [24] [13,6] [] [((!(decide (v<1)))=true→((!(decide (v<1)))=true)),((!(decide (v<1)))=true→((!(decide (v<1)))=true)),((!(decide (v<1)))=true→((!(decide (v<1)))=true)),((decide (v<1))=false→(!(decide (v<1)))=true)] ?_ (Zi (b:=(decide (v<1))||(decide (v>N))) (fun h1=>?_) fun h1=>?_))))
   ·
    refine ap ?_ (ap ?_ (ap ?_ (ap (by exact q2j) az)))<;>
     (first|omega|exact id|exact q2j|exact vcG|exact vcH|(intro _;omega)|exact(fun _ h=>h)|(intro h;simp at h;omega)|(simp only[Qa8,Qb5,Qa3,Qa9,Qb6,Qb1];omega)|(intro h;simp[h];done))
   ·
    try simp only[Qd2,Qc5,Qa2,Qd5,Qd1,Qe7,decide_eq_true_eq,decide_eq_false_iff_not,bne_iff_ne,bne_eq_false_iff_eq,beq_iff_eq,beq_eq_false_iff_ne]at h1
    obtain⟨hA,hB,hC,hD,hE⟩:=Cn.u1z (Cn.u0d hc0 (by omega)) (by decide)
    exact Sd hcx hmx [0,0,1,7,15] [(604,.to 604),(605,.to 605)] [6] [24,2,1] [] [] az (Zr (Fr (Fv 604 1 700 34 (.intss []) (Fv 605 1 701 34 (.intss []) (Fn [(700,.to 0),(701,.to 1),(604,.to 990),(605,.to 991)] [4,5,6] (Rv hcx (congrArg AV.tup (q0f (congrArg AV.agg (q0f (congrArg AV.int (show 0=(Cn.ouN N L v)from(by first|exact hA.symm|exact hC.symm|exact hE.symm))) rfl)) (q0f (congrArg AV.agg (q0f (congrArg AV.int (show 0=(Cn.ouV N L v)from(by first|exact hA.symm|exact hC.symm|exact hE.symm))) rfl)) (q0f (congrArg AV.int (show 140=(Cn.ouE N L v)from(by first|exact hA.symm|exact hC.symm|exact hE.symm))) rfl)))) [true,true] (q1g (congrArg some (congrArg (fun x=>q0d.row 34 (.intss x)) (show[]=(Cn.ouX N L v)from(by exact hB.symm)))) (q1g (congrArg some (congrArg (fun x=>q0d.row 34 (.intss x)) (show[]=(Cn.ouU N L v)from(by exact hD.symm)))) rfl))))))))
   ·
    try simp only[Qd2,Qc5,Qa2,Qd5,Qd1,Qe7,decide_eq_true_eq,decide_eq_false_iff_not,bne_iff_ne,bne_eq_false_iff_eq,beq_iff_eq,beq_eq_false_iff_ne]at h1
    have hv:¬(v<1∨N<v):=by omega
    refine Zk (Ft (Sq hcx [(1002,.to 230),(1007,.to 607),(1008,.to 608),(2002,.to 900)] [7,8,9] [24,2,1] [] [(L.length≤10000∧(∀l∈L,l.length≤1000)∧1≤v∧v≤65536∧0≤(65536:Int)∧(65536:Int)≤65536)] ?_ (Zs (Sz hcx [] [35] [9] [] (Zi (b:= !(decide (((Cn.q2r L v (65536:Int)).length:Int)≤(65536:Int)))) (fun h2=>?_) fun h2=>?_)))))
    ·
     refine ap ?_ az
     exact⟨hm1,hm2,by omega,by omega,by omega,by omega⟩
    ·
     obtain⟨hA,hB,hC,hD,hE⟩:=Cn.u1z (Cn.u8w hc0 hv (by simpa using h2)) (by decide)
     exact Sd hcx hmx [0,0,1,7,15] [(604,.to 604),(605,.to 605)] [6] [35,7,8] [230,607,608,900] [] az (Zr (Fr (Fv 604 1 700 34 (.intss []) (Fv 605 1 701 34 (.intss []) (Fn [(700,.to 0),(701,.to 1),(604,.to 990),(605,.to 991)] [4,5,6] (Rv hcx (congrArg AV.tup (q0f (congrArg AV.agg (q0f (congrArg AV.int (show 0=(Cn.ouN N L v)from(by first|exact hA.symm|exact hC.symm|exact hE.symm))) rfl)) (q0f (congrArg AV.agg (q0f (congrArg AV.int (show 0=(Cn.ouV N L v)from(by first|exact hA.symm|exact hC.symm|exact hE.symm))) rfl)) (q0f (congrArg AV.int (show 2=(Cn.ouE N L v)from(by first|exact hA.symm|exact hC.symm|exact hE.symm))) rfl)))) [true,true] (q1g (congrArg some (congrArg (fun x=>q0d.row 34 (.intss x)) (show[]=(Cn.ouX N L v)from(by exact hB.symm)))) (q1g (congrArg some (congrArg (fun x=>q0d.row 34 (.intss x)) (show[]=(Cn.ouU N L v)from(by exact hD.symm)))) rfl))))))))
    ·
     obtain⟨hE,hA,hB,hC,hD⟩:=Cn.u7b hc0 hv (by simpa using h2)
     exact Zk (Ft (Sd hcx hmx [0,0,1,7,15] [(604,.to 604),(605,.to 605)] [6] [35,7,8] [607,608] [] az (Zr (Fn [(230,.to 0),(900,.to 1),(604,.to 990),(605,.to 991)] [4,5,6] (Rv hcx (congrArg AV.tup (q0f (congrArg AV.agg (q0f (congrArg AV.int (show N=(Cn.ouN N L v)from(by first|exact hA.symm|exact hC.symm|exact hE.symm))) rfl)) (q0f (congrArg AV.agg (q0f (congrArg AV.int (show v=(Cn.ouV N L v)from(by first|exact hA.symm|exact hC.symm|exact hE.symm))) rfl)) (q0f (congrArg AV.int (show 0=(Cn.ouE N L v)from(by first|exact hA.symm|exact hC.symm|exact hE.symm))) rfl)))) [true,true] (q1g (congrArg some (congrArg (fun x=>q0d.row 34 (.intss x)) (show(Cn.q2r L v (65536:Int))=(Cn.ouX N L v)from(by exact hB.symm)))) (q1g (congrArg some (congrArg (fun x=>q0d.row 34 (.intss x)) (show(Cn.uOf L v)=(Cn.ouU N L v)from(by exact hD.symm)))) rfl)))))))
 ·
  cases hσ
end Go.Proofs.YteikjpbbhopkaaaGreatDoor.En
namespace Go.Proofs.YteikjpbbhopkaaaGreatDoor.En
open Go Go.RowKit
def u9d:List (Nat×TD):=[(3,⟨1,false,[.int .i64 0],[],none,8,false,1,1⟩),
 (4,⟨1,false,[.bool false],[],none,1,true,0,2⟩),
 (28,⟨1,false,[.int .i64 0],[],none,8,false,1,1⟩),
 (31,⟨1,false,[.slice none 0 0],[],some 34,24,false,0,0⟩),
 (34,⟨1,false,[.slice none 0 0],[],some 3,24,false,0,3⟩),
 (36,⟨2,true,[.int .i64 0,.slice none 0 0],[(0,3),(1,31)],none,32,false,0,6⟩),
 (37,⟨1,false,[.slice none 0 0],[],some 46,24,false,0,0⟩),
 (40,⟨1,false,[.slice none 0 0],[],some 4,24,false,0,0⟩),
 (46,⟨2,true,[.int .i64 0,.slice none 0 0],[(0,3),(1,31)],none,32,false,0,6⟩)]
theorem k7m:q5u Tryz.prog u9d:=⟨⟨by kernel_rfl,by kernel_rfl,by kernel_rfl⟩,⟨by kernel_rfl,by kernel_rfl,by kernel_rfl⟩,⟨by kernel_rfl,by kernel_rfl,by kernel_rfl⟩,⟨by kernel_rfl,by kernel_rfl,by kernel_rfl⟩,⟨by kernel_rfl,by kernel_rfl,by kernel_rfl⟩,⟨by kernel_rfl,by kernel_rfl,by kernel_rfl⟩,⟨by kernel_rfl,by kernel_rfl,by kernel_rfl⟩,⟨by kernel_rfl,by kernel_rfl,by kernel_rfl⟩,⟨by kernel_rfl,by kernel_rfl,by kernel_rfl⟩,trivial⟩
def j8b:Cx:=⟨u9d,[(12,(q1j [.agg [.id,.ld (.intss [])],.id] y4j)),(13,(q1j [.ld (.undos []),.ld (.bools [])] y5b)),(15,(q1j [.ld (.bools []),.ld (.bools [])] j5d)),(14,(q1j [.agg [.id,.ld (.intss [])],.agg [.id,.ld (.intss [])]] y3p))],false⟩
theorem y1n:q1c Tryz.prog j8b:=q0s k7m ⟨(y5u.coe [.agg [.id,.ld (.intss [])],.id] rfl),(y3k.coe [.ld (.undos []),.ld (.bools [])] rfl),(j8l.coe [.ld (.bools []),.ld (.bools [])] rfl),(y4t.coe [.agg [.id,.ld (.intss [])],.agg [.id,.ld (.intss [])]] rfl),trivial⟩
def j7k:CtF
 |[],[]=>some (True,.bool true,[])
 |_,_=>none
theorem y0f:q0c Tryz.prog 4 j7k:=by
 refine Sw (cx:=j8b) Tryz.f4 Tryz.func4 ?_
 intro wW wO wβ G0 args os p r outs hσ hp
 have hcx:=y1n
 unfold j7k at hσ
 split at hσ
 ·
  cases hσ
  refine⟨by kernel_rfl,?_⟩
  obtain⟨hE,hN3,hX,hV,hU⟩:=Cn.u4o
  have hE4:=Cn.u2n
  refine Sz hcx [] [] [] [] (Sz hcx [(1005,.to 601)] [1] [] [] (Sq hcx [(1006,.to 602),(1007,.to 603),(1001,.frz),(2001,.frz)] [2,3,4] [] [] [([[1,2],[(-1),3],[2,3]].length≤10000∧(∀l∈[[1,2],[(-1),3],[2,3]],l.length≤1000))] ?_ (Sq hcx [(1003,.frz)] [5] [] [] [([((Cn.ouV (3:Int) [[1,2],[(-1),3],[2,3]] (1:Int)),(Cn.ouU (3:Int) [[1,2],[(-1),3],[2,3]] (1:Int)))].length≤maxLen∧(∀w∈[((Cn.ouV (3:Int) [[1,2],[(-1),3],[2,3]] (1:Int)),(Cn.ouU (3:Int) [[1,2],[(-1),3],[2,3]] (1:Int)))],w.2.length≤maxLen∧∀l∈w.2,l.length≤maxLen)∧[false,true,true,false].length≤1000000)] ?_ (Sq hcx [(1003,.frz)] [6] [] [] [([((Cn.ouV (3:Int) [[1,2],[(-1),3],[2,3]] (1:Int)),(Cn.ouU (3:Int) [[1,2],[(-1),3],[2,3]] (1:Int)))].length≤maxLen∧(∀w∈[((Cn.ouV (3:Int) [[1,2],[(-1),3],[2,3]] (1:Int)),(Cn.ouU (3:Int) [[1,2],[(-1),3],[2,3]] (1:Int)))],w.2.length≤maxLen∧∀l∈w.2,l.length≤maxLen)∧[false,false,false,true].length≤1000000)] ?_ (Sq hcx [] [9] [1] [601] [([[1,2],[(-1),3],[2,3]].length≤10000∧(∀l∈[[1,2],[(-1),3],[2,3]],l.length≤1000))] ?_ (Sq hcx [] [0] [9,6,5,2,3,4] [602,603] [((Cn.ouX (3:Int) [[1,2],[(-1),3],[2,3]] (1:Int)).length≤maxLen∧∀l∈(Cn.ouX (3:Int) [[1,2],[(-1),3],[2,3]] (1:Int)),l.length≤maxLen),((((Cn.ouN (3:Int) [[1,2],[(-1),3],[2,3]] (1:Int))==(3:Int))&&decide ((Cn.ouX (3:Int) [[1,2],[(-1),3],[2,3]] (1:Int))=[[2,3],[2,3]]))=true→((((Cn.ouN (3:Int) [[1,2],[(-1),3],[2,3]] (1:Int))==(3:Int))&&decide ((Cn.ouX (3:Int) [[1,2],[(-1),3],[2,3]] (1:Int))=[[2,3],[2,3]]))=true)),((((Cn.ouN (3:Int) [[1,2],[(-1),3],[2,3]] (1:Int))==(3:Int))&&decide ((Cn.ouX (3:Int) [[1,2],[(-1),3],[2,3]] (1:Int))=[[2,3],[2,3]]))=true→(((Cn.ouN (3:Int) [[1,2],[(-1),3],[2,3]] (1:Int))==(3:Int))&&decide ((Cn.ouX (3:Int) [[1,2],[(-1),3],[2,3]] (1:Int))=[[2,3],[2,3]]))=true),(((((Cn.ouN (3:Int) [[1,2],[(-1),3],[2,3]] (1:Int))==(3:Int))&&decide ((Cn.ouX (3:Int) [[1,2],[(-1),3],[2,3]] (1:Int))=[[2,3],[2,3]]))&&((Cn.ouE (3:Int) [[1,2],[(-1),3],[2,3]] (1:Int))==0))=true→(((((Cn.ouN (3:Int) [[1,2],[(-1),3],[2,3]] (1:Int))==(3:Int))&&decide ((Cn.ouX (3:Int) [[1,2],[(-1),3],[2,3]] (1:Int))=[[2,3],[2,3]]))&&((Cn.ouE (3:Int) [[1,2],[(-1),3],[2,3]] (1:Int))==0))=true)),(((((Cn.ouN (3:Int) [[1,2],[(-1),3],[2,3]] (1:Int))==(3:Int))&&decide ((Cn.ouX (3:Int) [[1,2],[(-1),3],[2,3]] (1:Int))=[[2,3],[2,3]]))&&((Cn.ouE (3:Int) [[1,2],[(-1),3],[2,3]] (1:Int))==0))=true→(((((Cn.ouN (3:Int) [[1,2],[(-1),3],[2,3]] (1:Int))==(3:Int))&&decide ((Cn.ouX (3:Int) [[1,2],[(-1),3],[2,3]] (1:Int))=[[2,3],[2,3]]))&&((Cn.ouE (3:Int) [[1,2],[(-1),3],[2,3]] (1:Int))==0))=true)),(((((Cn.ouN (3:Int) [[1,2],[(-1),3],[2,3]] (1:Int))==(3:Int))&&decide ((Cn.ouX (3:Int) [[1,2],[(-1),3],[2,3]] (1:Int))=[[2,3],[2,3]]))&&((Cn.ouE (3:Int) [[1,2],[(-1),3],[2,3]] (1:Int))==0))=true→((((Cn.ouN (3:Int) [[1,2],[(-1),3],[2,3]] (1:Int))==(3:Int))&&decide ((Cn.ouX (3:Int) [[1,2],[(-1),3],[2,3]] (1:Int))=[[2,3],[2,3]]))&&((Cn.ouE (3:Int) [[1,2],[(-1),3],[2,3]] (1:Int))==0))=true),((((((Cn.ouN (3:Int) [[1,2],[(-1),3],[2,3]] (1:Int))==(3:Int))&&decide ((Cn.ouX (3:Int) [[1,2],[(-1),3],[2,3]] (1:Int))=[[2,3],[2,3]]))&&((Cn.ouE (3:Int) [[1,2],[(-1),3],[2,3]] (1:Int))==0))&&((Cn.ouV (3:Int) [[1,2],[(-1),3],[2,3]] (1:Int))==1))=true→((((((Cn.ouN (3:Int) [[1,2],[(-1),3],[2,3]] (1:Int))==(3:Int))&&decide ((Cn.ouX (3:Int) [[1,2],[(-1),3],[2,3]] (1:Int))=[[2,3],[2,3]]))&&((Cn.ouE (3:Int) [[1,2],[(-1),3],[2,3]] (1:Int))==0))&&((Cn.ouV (3:Int) [[1,2],[(-1),3],[2,3]] (1:Int))==1))=true)),((((((Cn.ouN (3:Int) [[1,2],[(-1),3],[2,3]] (1:Int))==(3:Int))&&decide ((Cn.ouX (3:Int) [[1,2],[(-1),3],[2,3]] (1:Int))=[[2,3],[2,3]]))&&((Cn.ouE (3:Int) [[1,2],[(-1),3],[2,3]] (1:Int))==0))&&((Cn.ouV (3:Int) [[1,2],[(-1),3],[2,3]] (1:Int))==1))=true→((((((Cn.ouN (3:Int) [[1,2],[(-1),3],[2,3]] (1:Int))==(3:Int))&&decide ((Cn.ouX (3:Int) [[1,2],[(-1),3],[2,3]] (1:Int))=[[2,3],[2,3]]))&&((Cn.ouE (3:Int) [[1,2],[(-1),3],[2,3]] (1:Int))==0))&&((Cn.ouV (3:Int) [[1,2],[(-1),3],[2,3]] (1:Int))==1))=true)),((((((Cn.ouN (3:Int) [[1,2],[(-1),3],[2,3]] (1:Int))==(3:Int))&&decide ((Cn.ouX (3:Int) [[1,2],[(-1),3],[2,3]] (1:Int))=[[2,3],[2,3]]))&&((Cn.ouE (3:Int) [[1,2],[(-1),3],[2,3]] (1:Int))==0))&&((Cn.ouV (3:Int) [[1,2],[(-1),3],[2,3]] (1:Int))==1))=true→((((((Cn.ouN (3:Int) [[1,2],[(-1),3],[2,3]] (1:Int))==(3:Int))&&decide ((Cn.ouX (3:Int) [[1,2],[(-1),3],[2,3]] (1:Int))=[[2,3],[2,3]]))&&((Cn.ouE (3:Int) [[1,2],[(-1),3],[2,3]] (1:Int))==0))&&((Cn.ouV (3:Int) [[1,2],[(-1),3],[2,3]] (1:Int))==1))=true)),((((((Cn.ouN (3:Int) [[1,2],[(-1),3],[2,3]] (1:Int))==(3:Int))&&decide ((Cn.ouX (3:Int) [[1,2],[(-1),3],[2,3]] (1:Int))=[[2,3],[2,3]]))&&((Cn.ouE (3:Int) [[1,2],[(-1),3],[2,3]] (1:Int))==0))&&((Cn.ouV (3:Int) [[1,2],[(-1),3],[2,3]] (1:Int))==1))=true→(((((Cn.ouN (3:Int) [[1,2],[(-1),3],[2,3]] (1:Int))==(3:Int))&&decide ((Cn.ouX (3:Int) [[1,2],[(-1),3],[2,3]] (1:Int))=[[2,3],[2,3]]))&&((Cn.ouE (3:Int) [[1,2],[(-1),3],[2,3]] (1:Int))==0))&&((Cn.ouV (3:Int) [[1,2],[(-1),3],[2,3]] (1:Int))==1))=true),(((((((Cn.ouN (3:Int) [[1,2],[(-1),3],[2,3]] (1:Int))==(3:Int))&&decide ((Cn.ouX (3:Int) [[1,2],[(-1),3],[2,3]] (1:Int))=[[2,3],[2,3]]))&&((Cn.ouE (3:Int) [[1,2],[(-1),3],[2,3]] (1:Int))==0))&&((Cn.ouV (3:Int) [[1,2],[(-1),3],[2,3]] (1:Int))==1))&&(((Cn.ouU (3:Int) [[1,2],[(-1),3],[2,3]] (1:Int)).length:Int)==2))=true→(((((((Cn.ouN (3:Int) [[1,2],[(-1),3],[2,3]] (1:Int))==(3:Int))&&decide ((Cn.ouX (3:Int) [[1,2],[(-1),3],[2,3]] (1:Int))=[[2,3],[2,3]]))&&((Cn.ouE (3:Int) [[1,2],[(-1),3],[2,3]] (1:Int))==0))&&((Cn.ouV (3:Int) [[1,2],[(-1),3],[2,3]] (1:Int))==1))&&(((Cn.ouU (3:Int) [[1,2],[(-1),3],[2,3]] (1:Int)).length:Int)==2))=true)),(((((((Cn.ouN (3:Int) [[1,2],[(-1),3],[2,3]] (1:Int))==(3:Int))&&decide ((Cn.ouX (3:Int) [[1,2],[(-1),3],[2,3]] (1:Int))=[[2,3],[2,3]]))&&((Cn.ouE (3:Int) [[1,2],[(-1),3],[2,3]] (1:Int))==0))&&((Cn.ouV (3:Int) [[1,2],[(-1),3],[2,3]] (1:Int))==1))&&(((Cn.ouU (3:Int) [[1,2],[(-1),3],[2,3]] (1:Int)).length:Int)==2))=true→(((((((Cn.ouN (3:Int) [[1,2],[(-1),3],[2,3]] (1:Int))==(3:Int))&&decide ((Cn.ouX (3:Int) [[1,2],[(-1),3],[2,3]] (1:Int))=[[2,3],[2,3]]))&&((Cn.ouE (3:Int) [[1,2],[(-1),3],[2,3]] (1:Int))==0))&&((Cn.ouV (3:Int) [[1,2],[(-1),3],[2,3]] (1:Int))==1))&&(((Cn.ouU (3:Int) [[1,2],[(-1),3],[2,3]] (1:Int)).length:Int)==2))=true)),(((((((Cn.ouN (3:Int) [[1,2],[(-1),3],[2,3]] (1:Int))==(3:Int))&&decide ((Cn.ouX (3:Int) [[1,2],[(-1),3],[2,3]] (1:Int))=[[2,3],[2,3]]))&&((Cn.ouE (3:Int) [[1,2],[(-1),3],[2,3]] (1:Int))==0))&&((Cn.ouV (3:Int) [[1,2],[(-1),3],[2,3]] (1:Int))==1))&&(((Cn.ouU (3:Int) [[1,2],[(-1),3],[2,3]] (1:Int)).length:Int)==2))=true→((Cn.q3h [((Cn.ouV (3:Int) [[1,2],[(-1),3],[2,3]] (1:Int)),(Cn.ouU (3:Int) [[1,2],[(-1),3],[2,3]] (1:Int)))] [false,true,true,false]).length≤maxLen)),(((((((Cn.ouN (3:Int) [[1,2],[(-1),3],[2,3]] (1:Int))==(3:Int))&&decide ((Cn.ouX (3:Int) [[1,2],[(-1),3],[2,3]] (1:Int))=[[2,3],[2,3]]))&&((Cn.ouE (3:Int) [[1,2],[(-1),3],[2,3]] (1:Int))==0))&&((Cn.ouV (3:Int) [[1,2],[(-1),3],[2,3]] (1:Int))==1))&&(((Cn.ouU (3:Int) [[1,2],[(-1),3],[2,3]] (1:Int)).length:Int)==2))=true→((((((Cn.ouN (3:Int) [[1,2],[(-1),3],[2,3]] (1:Int))==(3:Int))&&decide ((Cn.ouX (3:Int) [[1,2],[(-1),3],[2,3]] (1:Int))=[[2,3],[2,3]]))&&((Cn.ouE (3:Int) [[1,2],[(-1),3],[2,3]] (1:Int))==0))&&((Cn.ouV (3:Int) [[1,2],[(-1),3],[2,3]] (1:Int))==1))&&(((Cn.ouU (3:Int) [[1,2],[(-1),3],[2,3]] (1:Int)).length:Int)==2))=true),((((((((Cn.ouN (3:Int) [[1,2],[(-1),3],[2,3]] (1:Int))==(3:Int))&&decide ((Cn.ouX (3:Int) [[1,2],[(-1),3],[2,3]] (1:Int))=[[2,3],[2,3]]))&&((Cn.ouE (3:Int) [[1,2],[(-1),3],[2,3]] (1:Int))==0))&&((Cn.ouV (3:Int) [[1,2],[(-1),3],[2,3]] (1:Int))==1))&&(((Cn.ouU (3:Int) [[1,2],[(-1),3],[2,3]] (1:Int)).length:Int)==2))&&(decide ((Cn.q3h [((Cn.ouV (3:Int) [[1,2],[(-1),3],[2,3]] (1:Int)),(Cn.ouU (3:Int) [[1,2],[(-1),3],[2,3]] (1:Int)))] [false,true,true,false])=[false,false,true,false])))=true→((((((((Cn.ouN (3:Int) [[1,2],[(-1),3],[2,3]] (1:Int))==(3:Int))&&decide ((Cn.ouX (3:Int) [[1,2],[(-1),3],[2,3]] (1:Int))=[[2,3],[2,3]]))&&((Cn.ouE (3:Int) [[1,2],[(-1),3],[2,3]] (1:Int))==0))&&((Cn.ouV (3:Int) [[1,2],[(-1),3],[2,3]] (1:Int))==1))&&(((Cn.ouU (3:Int) [[1,2],[(-1),3],[2,3]] (1:Int)).length:Int)==2))&&(decide ((Cn.q3h [((Cn.ouV (3:Int) [[1,2],[(-1),3],[2,3]] (1:Int)),(Cn.ouU (3:Int) [[1,2],[(-1),3],[2,3]] (1:Int)))] [false,true,true,false])=[false,false,true,false])))=true)),((((((((Cn.ouN (3:Int) [[1,2],[(-1),3],[2,3]] (1:Int))==(3:Int))&&decide ((Cn.ouX (3:Int) [[1,2],[(-1),3],[2,3]] (1:Int))=[[2,3],[2,3]]))&&((Cn.ouE (3:Int) [[1,2],[(-1),3],[2,3]] (1:Int))==0))&&((Cn.ouV (3:Int) [[1,2],[(-1),3],[2,3]] (1:Int))==1))&&(((Cn.ouU (3:Int) [[1,2],[(-1),3],[2,3]] (1:Int)).length:Int)==2))&&(decide ((Cn.q3h [((Cn.ouV (3:Int) [[1,2],[(-1),3],[2,3]] (1:Int)),(Cn.ouU (3:Int) [[1,2],[(-1),3],[2,3]] (1:Int)))] [false,true,true,false])=[false,false,true,false])))=true→((((((((Cn.ouN (3:Int) [[1,2],[(-1),3],[2,3]] (1:Int))==(3:Int))&&decide ((Cn.ouX (3:Int) [[1,2],[(-1),3],[2,3]] (1:Int))=[[2,3],[2,3]]))&&((Cn.ouE (3:Int) [[1,2],[(-1),3],[2,3]] (1:Int))==0))&&((Cn.ouV (3:Int) [[1,2],[(-1),3],[2,3]] (1:Int))==1))&&(((Cn.ouU (3:Int) [[1,2],[(-1),3],[2,3]] (1:Int)).length:Int)==2))&&(decide ((Cn.q3h [((Cn.ouV (3:Int) [[1,2],[(-1),3],[2,3]] (1:Int)),(Cn.ouU (3:Int) [[1,2],[(-1),3],[2,3]] (1:Int)))] [false,true,true,false])=[false,false,true,false])))=true)),((((((((Cn.ouN (3:Int) [[1,2],[(-1),3],[2,3]] (1:Int))==(3:Int))&&decide ((Cn.ouX (3:Int) [[1,2],[(-1),3],[2,3]] (1:Int))=[[2,3],[2,3]]))&&((Cn.ouE (3:Int) [[1,2],[(-1),3],[2,3]] (1:Int))==0))&&((Cn.ouV (3:Int) [[1,2],[(-1),3],[2,3]] (1:Int))==1))&&(((Cn.ouU (3:Int) [[1,2],[(-1),3],[2,3]] (1:Int)).length:Int)==2))&&(decide ((Cn.q3h [((Cn.ouV (3:Int) [[1,2],[(-1),3],[2,3]] (1:Int)),(Cn.ouU (3:Int) [[1,2],[(-1),3],[2,3]] (1:Int)))] [false,true,true,false])=[false,false,true,false])))=true→((Cn.q3h [((Cn.ouV (3:Int) [[1,2],[(-1),3],[2,3]] (1:Int)),(Cn.ouU (3:Int) [[1,2],[(-1),3],[2,3]] (1:Int)))] [false,false,false,true]).length≤maxLen)),((((((((Cn.ouN (3:Int) [[1,2],[(-1),3],[2,3]] (1:Int))==(3:Int))&&decide ((Cn.ouX (3:Int) [[1,2],[(-1),3],[2,3]] (1:Int))=[[2,3],[2,3]]))&&((Cn.ouE (3:Int) [[1,2],[(-1),3],[2,3]] (1:Int))==0))&&((Cn.ouV (3:Int) [[1,2],[(-1),3],[2,3]] (1:Int))==1))&&(((Cn.ouU (3:Int) [[1,2],[(-1),3],[2,3]] (1:Int)).length:Int)==2))&&(decide ((Cn.q3h [((Cn.ouV (3:Int) [[1,2],[(-1),3],[2,3]] (1:Int)),(Cn.ouU (3:Int) [[1,2],[(-1),3],[2,3]] (1:Int)))] [false,true,true,false])=[false,false,true,false])))=true→(((((((Cn.ouN (3:Int) [[1,2],[(-1),3],[2,3]] (1:Int))==(3:Int))&&decide ((Cn.ouX (3:Int) [[1,2],[(-1),3],[2,3]] (1:Int))=[[2,3],[2,3]]))&&((Cn.ouE (3:Int) [[1,2],[(-1),3],[2,3]] (1:Int))==0))&&((Cn.ouV (3:Int) [[1,2],[(-1),3],[2,3]] (1:Int))==1))&&(((Cn.ouU (3:Int) [[1,2],[(-1),3],[2,3]] (1:Int)).length:Int)==2))&&(decide ((Cn.q3h [((Cn.ouV (3:Int) [[1,2],[(-1),3],[2,3]] (1:Int)),(Cn.ouU (3:Int) [[1,2],[(-1),3],[2,3]] (1:Int)))] [false,true,true,false])=[false,false,true,false])))=true),(((((((((Cn.ouN (3:Int) [[1,2],[(-1),3],[2,3]] (1:Int))==(3:Int))&&decide ((Cn.ouX (3:Int) [[1,2],[(-1),3],[2,3]] (1:Int))=[[2,3],[2,3]]))&&((Cn.ouE (3:Int) [[1,2],[(-1),3],[2,3]] (1:Int))==0))&&((Cn.ouV (3:Int) [[1,2],[(-1),3],[2,3]] (1:Int))==1))&&(((Cn.ouU (3:Int) [[1,2],[(-1),3],[2,3]] (1:Int)).length:Int)==2))&&(decide ((Cn.q3h [((Cn.ouV (3:Int) [[1,2],[(-1),3],[2,3]] (1:Int)),(Cn.ouU (3:Int) [[1,2],[(-1),3],[2,3]] (1:Int)))] [false,true,true,false])=[false,false,true,false])))&&(decide ((Cn.q3h [((Cn.ouV (3:Int) [[1,2],[(-1),3],[2,3]] (1:Int)),(Cn.ouU (3:Int) [[1,2],[(-1),3],[2,3]] (1:Int)))] [false,false,false,true])=[false,true,false,true])))=true→(((((((((Cn.ouN (3:Int) [[1,2],[(-1),3],[2,3]] (1:Int))==(3:Int))&&decide ((Cn.ouX (3:Int) [[1,2],[(-1),3],[2,3]] (1:Int))=[[2,3],[2,3]]))&&((Cn.ouE (3:Int) [[1,2],[(-1),3],[2,3]] (1:Int))==0))&&((Cn.ouV (3:Int) [[1,2],[(-1),3],[2,3]] (1:Int))==1))&&(((Cn.ouU (3:Int) [[1,2],[(-1),3],[2,3]] (1:Int)).length:Int)==2))&&(decide ((Cn.q3h [((Cn.ouV (3:Int) [[1,2],[(-1),3],[2,3]] (1:Int)),(Cn.ouU (3:Int) [[1,2],[(-1),3],[2,3]] (1:Int)))] [false,true,true,false])=[false,false,true,false])))&&(decide ((Cn.q3h [((Cn.ouV (3:Int) [[1,2],[(-1),3],[2,3]] (1:Int)),(Cn.ouU (3:Int) [[1,2],[(-1),3],[2,3]] (1:Int)))] [false,false,false,true])=[false,true,false,true])))=true)),(((((((((Cn.ouN (3:Int) [[1,2],[(-1),3],[2,3]] (1:Int))==(3:Int))&&decide ((Cn.ouX (3:Int) [[1,2],[(-1),3],[2,3]] (1:Int))=[[2,3],[2,3]]))&&((Cn.ouE (3:Int) [[1,2],[(-1),3],[2,3]] (1:Int))==0))&&((Cn.ouV (3:Int) [[1,2],[(-1),3],[2,3]] (1:Int))==1))&&(((Cn.ouU (3:Int) [[1,2],[(-1),3],[2,3]] (1:Int)).length:Int)==2))&&(decide ((Cn.q3h [((Cn.ouV (3:Int) [[1,2],[(-1),3],[2,3]] (1:Int)),(Cn.ouU (3:Int) [[1,2],[(-1),3],[2,3]] (1:Int)))] [false,true,true,false])=[false,false,true,false])))&&(decide ((Cn.q3h [((Cn.ouV (3:Int) [[1,2],[(-1),3],[2,3]] (1:Int)),(Cn.ouU (3:Int) [[1,2],[(-1),3],[2,3]] (1:Int)))] [false,false,false,true])=[false,true,false,true])))=true→((((((((Cn.ouN (3:Int) [[1,2],[(-1),3],[2,3]] (1:Int))==(3:Int))&&decide ((Cn.ouX (3:Int) [[1,2],[(-1),3],[2,3]] (1:Int))=[[2,3],[2,3]]))&&((Cn.ouE (3:Int) [[1,2],[(-1),3],[2,3]] (1:Int))==0))&&((Cn.ouV (3:Int) [[1,2],[(-1),3],[2,3]] (1:Int))==1))&&(((Cn.ouU (3:Int) [[1,2],[(-1),3],[2,3]] (1:Int)).length:Int)==2))&&(decide ((Cn.q3h [((Cn.ouV (3:Int) [[1,2],[(-1),3],[2,3]] (1:Int)),(Cn.ouU (3:Int) [[1,2],[(-1),3],[2,3]] (1:Int)))] [false,true,true,false])=[false,false,true,false])))&&(decide ((Cn.q3h [((Cn.ouV (3:Int) [[1,2],[(-1),3],[2,3]] (1:Int)),(Cn.ouU (3:Int) [[1,2],[(-1),3],[2,3]] (1:Int)))] [false,false,false,true])=[false,true,false,true])))=true)] ?_ (Zr (Rv hcx (congrArg AV.bool (show(((((((((Cn.ouN (3:Int) [[1,2],[(-1),3],[2,3]] (1:Int))==(3:Int))&&decide ((Cn.ouX (3:Int) [[1,2],[(-1),3],[2,3]] (1:Int))=[[2,3],[2,3]]))&&((Cn.ouE (3:Int) [[1,2],[(-1),3],[2,3]] (1:Int))==0))&&((Cn.ouV (3:Int) [[1,2],[(-1),3],[2,3]] (1:Int))==1))&&(((Cn.ouU (3:Int) [[1,2],[(-1),3],[2,3]] (1:Int)).length:Int)==2))&&(decide ((Cn.q3h [((Cn.ouV (3:Int) [[1,2],[(-1),3],[2,3]] (1:Int)),(Cn.ouU (3:Int) [[1,2],[(-1),3],[2,3]] (1:Int)))] [false,true,true,false])=[false,false,true,false])))&&(decide ((Cn.q3h [((Cn.ouV (3:Int) [[1,2],[(-1),3],[2,3]] (1:Int)),(Cn.ouU (3:Int) [[1,2],[(-1),3],[2,3]] (1:Int)))] [false,false,false,true])=[false,true,false,true])))&&((Cn.ouE (3:Int) [[1,2],[(-1),3],[2,3]] (4:Int))==140))=true from(by simp only[hX,hN3,hV,hU,hE,hE4];decide))) [] rfl))))))))
  ·
   refine ap ?_ az
   decide
  ·
   refine ap ?_ az
   (simp only[hX,hN3,hV,hU,hE,hE4];decide)
  ·
   refine ap ?_ az
   (simp only[hX,hN3,hV,hU,hE,hE4];decide)
  ·
   refine ap ?_ az
   decide
  ·
   refine ap ?_ (ap ?_ (ap (by exact id) (ap ?_ (ap ?_ (ap (by exact id) (ap ?_ (ap ?_ (ap ?_ (ap (by exact id) (ap ?_ (ap ?_ (ap ?_ (ap (by exact id) (ap ?_ (ap ?_ (ap ?_ (ap (by exact id) (ap ?_ (ap (by exact id) az)))))))))))))))))))<;>
    (simp only[hX,hN3,hV,hU,hE,hE4];decide)
 ·
  cases hσ
end Go.Proofs.YteikjpbbhopkaaaGreatDoor.En
namespace Go.Proofs.YteikjpbbhopkaaaGreatDoor.En
open Go Go.RowKit
def z0u:List (Nat×TD):=[(3,⟨1,false,[.int .i64 0],[],none,8,false,1,1⟩),
 (28,⟨1,false,[.int .i64 0],[],none,8,false,1,1⟩),
 (31,⟨1,false,[.slice none 0 0],[],some 34,24,false,0,0⟩),
 (34,⟨1,false,[.slice none 0 0],[],some 3,24,false,0,3⟩),
 (36,⟨2,true,[.int .i64 0,.slice none 0 0],[(0,3),(1,31)],none,32,false,0,6⟩),
 (37,⟨1,false,[.slice none 0 0],[],some 46,24,false,0,0⟩),
 (46,⟨2,true,[.int .i64 0,.slice none 0 0],[(0,3),(1,31)],none,32,false,0,6⟩),
 (60,⟨1,false,[.nilFunc],[],none,8,false,0,0⟩),
 (65,⟨1,false,[.nilFunc],[],none,8,false,0,0⟩)]
theorem q5h:q5u Tryz.prog z0u:=⟨⟨by kernel_rfl,by kernel_rfl,by kernel_rfl⟩,⟨by kernel_rfl,by kernel_rfl,by kernel_rfl⟩,⟨by kernel_rfl,by kernel_rfl,by kernel_rfl⟩,⟨by kernel_rfl,by kernel_rfl,by kernel_rfl⟩,⟨by kernel_rfl,by kernel_rfl,by kernel_rfl⟩,⟨by kernel_rfl,by kernel_rfl,by kernel_rfl⟩,⟨by kernel_rfl,by kernel_rfl,by kernel_rfl⟩,⟨by kernel_rfl,by kernel_rfl,by kernel_rfl⟩,⟨by kernel_rfl,by kernel_rfl,by kernel_rfl⟩,trivial⟩
def j9a:Cx:=⟨z0u,[],false⟩
theorem y2k:q1c Tryz.prog j9a:=q0s q5h trivial
def j4r:CtF
 |[.im (.val (.int .i64 v)),.pto [.val (.int .i64 N),.ls (.intss L)]],[]=>some (True,.bool (Cn.j3i N v),[])
 |_,_=>none
theorem j8e:q0c Tryz.prog 19 j4r:=by
 refine Sw (cx:=j9a) Tryz.f19 Tryz.func19 ?_
 intro wW wO wβ G0 args os p r outs hσ hp
 have hcx:=y2k
 unfold j4r at hσ
 split at hσ
 ·
  rename_i v N L
  cases hσ
  refine⟨by kernel_rfl,?_⟩
  refine Sz hcx [] [] [] [] (Sq hcx [] [3] [0,1] [] [((!(decide (v<1)))=true→((!(decide (v<1)))=true)),((!(decide (v<1)))=true→((!(decide (v<1)))=true)),((!(decide (v<1)))=true→((!(decide (v<1)))=true)),((decide (v<1))=false→(!(decide (v<1)))=true)] ?_ (Zr (Ru hcx [])))
  ·
   refine ap ?_ (ap ?_ (ap ?_ (ap (by exact q2j) az)))<;>
    exact id
 ·
  cases hσ
def j3g:Cx:=⟨z0u,[(19,j4r)],false⟩
theorem j4g:q1c Tryz.prog j3g:=q0s q5h ⟨j8e,trivial⟩
def z6q:CtF
 |[.im (.ls (.ints s)),.clo 19 [.pto [.val (.int .i64 N),.ls (.intss L)]]],[]=>some (s.length≤maxLen∧True,.int (Cn.q5r (fun x=>Cn.j3i N x) s),[])
 |_,_=>none
theorem j5h:q0c Tryz.prog 47 z6q:=by
 refine Sw (cx:=j3g) Tryz.f47 Tryz.func47 ?_
 intro wW wO wβ G0 args os p r outs hσ hp
 have hcx:=j4g
 unfold z6q at hσ
 split at hσ
 ·
  rename_i s N L
  cases hσ
  refine⟨by kernel_rfl,?_⟩
  obtain⟨hm1,hpr⟩:=hp
  unfold maxLen at hm1
  refine Sz hcx [] [] [] [] (Zs (Sz hcx [] [7,8] [] [] (Zb (Lp (X:=Nat) (fun x0=>x0≤s.length∧∀j,j<x0→(Cn.j3i N (s.getD j 0))=false) (fun x0=>([(0,.ints s),(1,.clo 19 [.pto [.int N,.ls (.intss L)]]),(7,.int (s.length:Int)),(8,.int (x0:Int))],[])) (fun x0=>s.length-x0) (0) ?_ (Ex 8 (congrArg AV.int (show 0=(0:Int)from(by first|rfl|omega|(simp;done)))) Eb) Hb fun k hI=>?_))))
  ·
   exact⟨Qc1 _,fun j hj=>by omega⟩
  ·
   try dsimp only at hI
   obtain⟨hk,hok⟩:=hI
   refine Sz hcx [] [9] [] [] (Zs (Zj (p:=((k:Int)<(s.length:Int))) (fun h0=>?_) fun h0=>?_))
   ·
    refine Zk (Ft (Zs (Zb (Sz hcx [] [5] [9] [] (Sq hcx [] [16] [] [] [((0:Int)≤(k:Int)∧(k:Int)<(s.length:Int)),(True)] ?_ (Zi (b:=Cn.j3i N (s.getD k 0)) (fun h1=>?_) fun h1=>?_))))))
    ·
     refine ap ?_ (ap ?_ az)<;>
      omega
    ·
     have hq:=h1
     exact Sz hcx [] [4] [16,5,0,1,7,8] [] (Zr (Fk (Fr (Fr (Fk (Fr (Rv hcx (congrArg AV.int (show(k:Int)=(Cn.q5r (fun x=>Cn.j3i N x) s)from(by exact(Cn.q4r (p:=(fun x=>Cn.j3i N x)) (by omega) hok hq).symm))) [] rfl)))))))
    ·
     have hq:=h1
     refine Zk (Fb (Ft (Tq hcx [] [8] [16,5] [] [Fit ((k:Int)+1)] ?_ (Lr (k+1) ?_ ?_ (Ex 8 (congrArg AV.int (show((k:Int)+1)=((k+1):Int)from(by first|rfl|omega|(simp;done)))) Eb) Hb))))
     ·
      refine ap ?_ az
      omega
     ·
      exact⟨by omega,Cn.q4a hok hq⟩
     ·
      show s.length-(k+1)<s.length-k
      omega
   ·
    exact Ze (Fe (Fe (Fs (Ft (Sz hcx [] [4] [9,0,1,7,8] [] (Zr (Rv hcx (congrArg AV.int (show(-1)=(Cn.q5r (fun x=>Cn.j3i N x) s)from(by exact(Cn.q6k (p:=(fun x=>Cn.j3i N x)) (Cn.q7i (d:=0) (fun j hj=>hok j (by omega)))).symm))) [] rfl)))))))
 ·
  cases hσ
def j3j:Cx:=⟨z0u,[(47,(q1j [.ld (.ints []),.id] z6q))],false⟩
theorem j7v:q1c Tryz.prog j3j:=q0s q5h ⟨(j5h.coe [.ld (.ints []),.id] rfl),trivial⟩
def z7t:CtF
 |[.im (.ls (.ints s)),.clo 19 [.pto [.val (.int .i64 N),.ls (.intss L)]]],[]=>some (s.length≤maxLen∧True,.bool (s.any (fun x=>Cn.j3i N x)),[])
 |_,_=>none
theorem j5k:q0c Tryz.prog 20 z7t:=by
 refine Sw (cx:=j3j) Tryz.f20 Tryz.func20 ?_
 intro wW wO wβ G0 args os p r outs hσ hp
 have hcx:=j7v
 unfold z7t at hσ
 split at hσ
 ·
  rename_i s N L
  cases hσ
  refine⟨by kernel_rfl,?_⟩
  refine Sz hcx [] [] [] [] (Sq hcx [] [4] [0,1] [] [(s.length≤maxLen∧True)] ?_ (Zr (Rv hcx (congrArg AV.bool (show(decide ((Cn.q5r (fun x=>Cn.j3i N x) s)≥0))=(s.any (fun x=>Cn.j3i N x))from(by exact Cn.q4q (p:=(fun x=>Cn.j3i N x)) s))) [] rfl)))
  ·
   refine ap ?_ az
   exact hp
 ·
  cases hσ
def j1c:Cx:=⟨z0u,[(51,(q1j [.ld (.ints []),.id] j7q))],false⟩
theorem j4x:q1c Tryz.prog j1c:=q0s q5h ⟨(z7e.coe [.ld (.ints []),.id] rfl),trivial⟩
def z9d:CtF
 |[.im (.ls (.intss s)),.clo 51 [.pto [.val (.int .i64 v)]]],[]=>some (s.length≤maxLen∧(∀l∈s,l.length≤maxLen)∧-65536≤v∧v≤65536,.int (Cn.q5r (fun x=>Cn.z0i v x) s),[])
 |_,_=>none
theorem j5y:q0c Tryz.prog 50 z9d:=by
 refine Sw (cx:=j1c) Tryz.f50 Tryz.func50 ?_
 intro wW wO wβ G0 args os p r outs hσ hp
 have hcx:=j4x
 unfold z9d at hσ
 split at hσ
 ·
  rename_i s v
  cases hσ
  refine⟨by kernel_rfl,?_⟩
  obtain⟨hm1,hpr⟩:=hp
  unfold maxLen at hm1
  refine Sz hcx [] [] [] [] (Zs (Sz hcx [] [7,8] [] [] (Zb (Lp (X:=Nat) (fun x0=>x0≤s.length∧∀j,j<x0→(Cn.z0i v (s.getD j []))=false) (fun x0=>([(0,.intss s),(1,.clo 51 [.pto [.int v]]),(7,.int (s.length:Int)),(8,.int (x0:Int))],[])) (fun x0=>s.length-x0) (0) ?_ (Ex 8 (congrArg AV.int (show 0=(0:Int)from(by first|rfl|omega|(simp;done)))) Eb) Hb fun k hI=>?_))))
  ·
   exact⟨Qc1 _,fun j hj=>by omega⟩
  ·
   try dsimp only at hI
   obtain⟨hk,hok⟩:=hI
   refine Sz hcx [] [9] [] [] (Zs (Zj (p:=((k:Int)<(s.length:Int))) (fun h0=>?_) fun h0=>?_))
   ·
    refine Zk (Ft (Zs (Zb (Sz hcx [] [5] [9] [] (Sq hcx [] [16] [] [] [((0:Int)≤(k:Int)∧(k:Int)<(s.length:Int)),((s.getD k []).length≤maxLen∧-65536≤v∧v≤65536)] ?_ (Zi (b:=Cn.z0i v (s.getD k [])) (fun h1=>?_) fun h1=>?_))))))
    ·
     refine ap ?_ (ap ?_ az)<;>
      first|omega|exact⟨hpr.1 _ (Cn.q0t (by omega)),hpr.2.1,hpr.2.2⟩
    ·
     have hq:=h1
     exact Sz hcx [] [4] [16,5,0,1,7,8] [] (Zr (Fk (Fr (Fr (Fk (Fr (Rv hcx (congrArg AV.int (show(k:Int)=(Cn.q5r (fun x=>Cn.z0i v x) s)from(by exact(Cn.q4r (p:=(fun x=>Cn.z0i v x)) (by omega) hok hq).symm))) [] rfl)))))))
    ·
     have hq:=h1
     refine Zk (Fb (Ft (Tq hcx [] [8] [16,5] [] [Fit ((k:Int)+1)] ?_ (Lr (k+1) ?_ ?_ (Ex 8 (congrArg AV.int (show((k:Int)+1)=((k+1):Int)from(by first|rfl|omega|(simp;done)))) Eb) Hb))))
     ·
      refine ap ?_ az
      omega
     ·
      exact⟨by omega,Cn.q4a hok hq⟩
     ·
      show s.length-(k+1)<s.length-k
      omega
   ·
    exact Ze (Fe (Fe (Fs (Ft (Sz hcx [] [4] [9,0,1,7,8] [] (Zr (Rv hcx (congrArg AV.int (show(-1)=(Cn.q5r (fun x=>Cn.z0i v x) s)from(by exact(Cn.q6k (p:=(fun x=>Cn.z0i v x)) (Cn.q7i (d:=[]) (fun j hj=>hok j (by omega)))).symm))) [] rfl)))))))
 ·
  cases hσ
def j1j:Cx:=⟨z0u,[(50,(q1j [.ld (.intss []),.id] z9d))],false⟩
theorem j6s:q1c Tryz.prog j1j:=q0s q5h ⟨(j5y.coe [.ld (.intss []),.id] rfl),trivial⟩
def z8k:CtF
 |[.im (.ls (.intss s)),.clo 51 [.pto [.val (.int .i64 v)]]],[]=>some (s.length≤maxLen∧(∀l∈s,l.length≤maxLen)∧-65536≤v∧v≤65536,.bool (s.any (fun x=>Cn.z0i v x)),[])
 |_,_=>none
theorem j5x:q0c Tryz.prog 23 z8k:=by
 refine Sw (cx:=j1j) Tryz.f23 Tryz.func23 ?_
 intro wW wO wβ G0 args os p r outs hσ hp
 have hcx:=j6s
 unfold z8k at hσ
 split at hσ
 ·
  rename_i s v
  cases hσ
  refine⟨by kernel_rfl,?_⟩
  refine Sz hcx [] [] [] [] (Sq hcx [] [4] [0,1] [] [(s.length≤maxLen∧(∀l∈s,l.length≤maxLen)∧-65536≤v∧v≤65536)] ?_ (Zr (Rv hcx (congrArg AV.bool (show(decide ((Cn.q5r (fun x=>Cn.z0i v x) s)≥0))=(s.any (fun x=>Cn.z0i v x))from(by exact Cn.q4q (p:=(fun x=>Cn.z0i v x)) s))) [] rfl)))
  ·
   refine ap ?_ az
   exact hp
 ·
  cases hσ
def y8o:Cx:=⟨z0u,[(18,(q1j [.agg [.id,.ld (.intss [])]] z2r)),(22,(q1j [.ld (.ints []),.id] q5m)),(21,(q1j [.ld (.intss [])] y8l)),(24,y9f),(25,(q1j [.agg [.id,.ld (.intss [])],.id,.id] y8n)),(20,(q1j [.ld (.ints []),.id] z7t)),(23,(q1j [.ld (.intss []),.id] z8k))],false⟩
theorem y3t:q1c Tryz.prog y8o:=q0s q5h ⟨(q8y.coe [.agg [.id,.ld (.intss [])]] rfl),(q3y.coe [.ld (.ints []),.id] rfl),(j1x.coe [.ld (.intss [])] rfl),j2g,(j1z.coe [.agg [.id,.ld (.intss [])],.id,.id] rfl),(j5k.coe [.ld (.ints []),.id] rfl),(j5x.coe [.ld (.intss []),.id] rfl),trivial⟩
def y7a:CtF
 |[.agg [.im (.val (.int .i64 N)),.im (.ls (.intss L))],.im (.ls (.ints fz)),.im (.val (.int .i64 g))],[]=>some (L.length≤61∧(∀l∈L,l.length≤100)∧N≤30∧fz.length≤maxLen∧(g≤40∨1099511627776<g),.tup [.agg [.int (Cn.elN N L fz g),.intss (Cn.elX N L fz g)],.undos (Cn.elU N L fz g),.int (Cn.elE N L fz g)],[])
 |_,_=>none
set_option maxRecDepth 20000 in
theorem y6x:q0c Tryz.prog 8 y7a:=by
 refine Sw (cx:=y8o) Tryz.f8 Tryz.func8 ?_
 intro wW wO wβ G0 args os p r outs hσ hp
 have hcx:=y3t
 have hmx:Tryz.prog.follows .mixedOrders=true:=by kernel_rfl
 unfold y7a at hσ
 split at hσ
 ·
  rename_i N L fz g
  cases hσ
  refine⟨by kernel_rfl,?_⟩
  obtain⟨hm1,hm2,hm3,hm4,hm5⟩:=hp
  have hck:L.length≤maxLen∧∀l∈L,l.length≤maxLen:=⟨by unfold maxLen;omega,fun l hl=>by have:=hm2 l hl;unfold maxLen;omega⟩
  have hown:L.length≤1000000∧∀l∈L,l.length≤1000000:=⟨by omega,fun l hl=>by have:=hm2 l hl;omega⟩
  refine Sz hcx [(1001,.to 606),(1000,.frz)] [3,6,7] [0] [] (Zs (Sq hcx [] [8] [] [] [(L.length≤maxLen∧∀l∈L,l.length≤maxLen)] ?_ (Sz hcx [] [17] [] [] (Zx (a:=(Cn.q3x N L)) (b:=0) (fun h0=>?_) fun h0=>?_))))
  ·
   refine ap ?_ az
   omega
  ·
   obtain⟨hA,hB,hC,hE⟩:=Cn.u5q (fz:=fz) (g:=g) (Cn.k9d h0) h0
   exact Sz hcx [(606,.to 606)] [7,8] [17,3,1,2] [] (Zr (Fr (Fv 606 1 700 0 (.intss []) (Fp 7 (.undos []) (Fn [(606,.to 990),(700,.frz)] [6,7,8] (Rv hcx (congrArg AV.tup (q0f (congrArg AV.agg (q0f (congrArg AV.int (show 0=(Cn.elN N L fz g)from(by first|exact hA.symm|exact hB.symm|exact hC.symm|exact hE.symm|(rw[show k=N.toNat from(by omega)];first|exact hB.symm|exact hC.symm)))) (q0f (congrArg AV.intss (show[]=(Cn.elX N L fz g)from(by first|exact hA.symm|exact hB.symm|exact hC.symm|exact hE.symm|(rw[show k=N.toNat from(by omega)];first|exact hB.symm|exact hC.symm)))) rfl))) (q0f (congrArg AV.undos (show[]=(Cn.elU N L fz g)from(by first|exact hA.symm|exact hB.symm|exact hC.symm|exact hE.symm|(rw[show k=N.toNat from(by omega)];first|exact hB.symm|exact hC.symm)))) (q0f (congrArg AV.int (show(Cn.q3x N L)=(Cn.elE N L fz g)from(by first|exact hA.symm|exact hB.symm|exact hC.symm|exact hE.symm|(rw[show k=N.toNat from(by omega)];first|exact hB.symm|exact hC.symm)))) rfl)))) [] rfl))))))
  ·
   have hc0:Cn.q3x N L=0:=h0
   have hN:=Cn.q6b.1 hc0
   refine Zk (Ft (Sz hcx [] [9] [17,8] [] (Zs (Sq hcx [] [31] [9] [] [((!(decide (g<0)))=true→((!(decide (g<0)))=true)),((decide (g<0))=false→(!(decide (g<0)))=true),((!((decide (g<0))||(decide (g>1099511627776))))=true→((!((decide (g<0))||(decide (g>1099511627776))))=true)),((!((decide (g<0))||(decide (g>1099511627776))))=true→((!((decide (g<0))||(decide (g>1099511627776))))=true)),((!((decide (g<0))||(decide (g>1099511627776))))=true→(fz.length≤maxLen∧True)),(((decide (g<0))||(decide (g>1099511627776)))=false→(!((decide (g<0))||(decide (g>1099511627776))))=true)] ?_ (Zi (b:=((decide (g<0))||(decide (g>1099511627776)))||(fz.any (fun x=>Cn.j3i N x))) (fun h1=>?_) fun h1=>?_)))))
   ·
    refine ap ?_ (ap (by exact q2j) (ap ?_ (ap ?_ (ap ?_ (ap (by exact q2j) az)))))<;>
     first|exact(fun _=>⟨hm4,trivial⟩)|(first|omega|exact id|exact q2j|exact vcG|exact vcH|(intro _;omega)|exact(fun _ h=>h)|(intro h;simp at h;omega)|(simp only[Qa8,Qb5,Qa3,Qa9,Qb6,Qb1];omega)|(intro h;simp[h];done))
   ·
    obtain⟨hA,hB,hC,hE⟩:=Cn.u5q (Cn.u1o hc0 h1) (by decide)
    exact Sz hcx [(606,.to 606)] [7,8] [31,3,1,2] [] (Zr (Fr (Fv 606 1 700 0 (.intss []) (Fp 7 (.undos []) (Fn [(606,.to 990),(700,.frz)] [6,7,8] (Rv hcx (congrArg AV.tup (q0f (congrArg AV.agg (q0f (congrArg AV.int (show 0=(Cn.elN N L fz g)from(by first|exact hA.symm|exact hB.symm|exact hC.symm|exact hE.symm|(rw[show k=N.toNat from(by omega)];first|exact hB.symm|exact hC.symm)))) (q0f (congrArg AV.intss (show[]=(Cn.elX N L fz g)from(by first|exact hA.symm|exact hB.symm|exact hC.symm|exact hE.symm|(rw[show k=N.toNat from(by omega)];first|exact hB.symm|exact hC.symm)))) rfl))) (q0f (congrArg AV.undos (show[]=(Cn.elU N L fz g)from(by first|exact hA.symm|exact hB.symm|exact hC.symm|exact hE.symm|(rw[show k=N.toNat from(by omega)];first|exact hB.symm|exact hC.symm)))) (q0f (congrArg AV.int (show 1=(Cn.elE N L fz g)from(by first|exact hA.symm|exact hB.symm|exact hC.symm|exact hE.symm|(rw[show k=N.toNat from(by omega)];first|exact hB.symm|exact hC.symm)))) rfl)))) [] rfl))))))
   ·
    have hE0:=Cn.v2c hc0 h1
    obtain⟨_,hg0,hg2,_⟩:=Cn.x1a hE0
    have hg1:g≤40:=by omega
    obtain⟨hA,hB,hC,hE⟩:=Cn.k2j hE0
    refine Zk (Ft (Sd hcx hmx [0,1,0,4,12,31,63] [(1004,.to 237),(606,.to 606)] [] [31] [] [(L.length≤1000000∧∀l∈L,l.length≤1000000)] ?_ (Zs (Sz hcx [] [10] [] [] (Zb (Zw 7 11 46 (.undos []) (Zn [(11,.to 11),(606,.to 606),(237,.frz)] [1,2,3,6,7,10] (Lp (X:=Nat) (fun x0=>x0≤N.toNat) (fun x0=>([(1,.ints fz),(2,.int g),(3,.pto [.int N,.ls (.intss L)]),(6,.loc 606 0),(7,.row 11),(10,.int ((x0:Int)+1))],[(11,.row 46 (.undos ((Cn.q2o L fz g x0).2))),(606,.box [.int N,.intss ((Cn.q2o L fz g x0).1)])])) (fun x0=>N.toNat-x0) (0) ?_ (Ex 10 (congrArg AV.int (show 1=((0:Int)+1)from(by first|rfl|omega|(simp;done)))) Eb) (Hx 606 (o:=.box [.int N,.intss L]) (o':=.box [.int N,.intss ((Cn.q2o L fz g 0).1)]) (congrArg q0d.box (q0f rfl (q0f (congrArg AV.intss (show L=(Cn.q2o L fz g 0).1 from(by rfl))) rfl))) Hb) fun k hI=>?_))))))))
    ·
     refine ap ?_ az
     omega
    ·
     show 0≤N.toNat
     omega
    ·
     replace hI:k≤N.toNat:=hI
     obtain⟨hi1,hi2,hi3,hi4⟩:=Cn.y9y (fz:=fz) (g:=g) hm3 (Cn.j6a hc0 hm2) hm1 hg0 hg1 k (by omega)
     have hxm:∀l∈(Cn.q2o L fz g k).1,l.length≤maxLen:=fun l hl=>by have:=(hi1 l hl).2;unfold maxLen;omega
     have hxs:∀l∈(Cn.q2o L fz g k).1,l.length≤1000:=fun l hl=>by have:=(hi1 l hl).2;omega
     have hx5:(Cn.q2o L fz g k).1.length≤1261:=by omega
     refine Zs (Sz hcx [] [42] [] [] (Zj (p:=(((k:Int)+1)≤N)) (fun h2=>?_) fun h2=>?_))
     ·
      refine Zk (Ft (Zs (Zb (Zs (Sd hcx hmx [0,0,3,7,15,31,15,79,255,511,1023] [] [55] [42] [] [(fz.length≤maxLen),((!(fz.contains ((k:Int)+1)))=true→((!(fz.contains ((k:Int)+1)))=true)),((!(fz.contains ((k:Int)+1)))=true→((!(fz.contains ((k:Int)+1)))=true)),((!(fz.contains ((k:Int)+1)))=true→(True)),((!(fz.contains ((k:Int)+1)))=true→((!(fz.contains ((k:Int)+1)))=true)),((!(fz.contains ((k:Int)+1)))=true→((!(fz.contains ((k:Int)+1)))=true)),((!(fz.contains ((k:Int)+1)))=true→(((Cn.q2o L fz g k).1).length≤maxLen∧(∀l∈((Cn.q2o L fz g k).1),l.length≤maxLen)∧-65536≤((k:Int)+1)∧((k:Int)+1)≤65536)),((!(fz.contains ((k:Int)+1)))=true→((!(fz.contains ((k:Int)+1)))=true)),((fz.contains ((k:Int)+1))=false→(!(fz.contains ((k:Int)+1)))=true)] ?_ (Zi (b:=(fz.contains ((k:Int)+1))||(!(((Cn.q2o L fz g k).1).any (fun x=>Cn.z0i ((k:Int)+1) x)))) (fun h3=>?_) fun h3=>?_))))))
      ·
       refine ap ?_ (ap ?_ (ap ?_ (ap ?_ (ap ?_ (ap ?_ (ap ?_ (ap ?_ (ap (by exact q2j) az))))))))<;>
        first|omega|exact(fun _=>trivial)|exact(fun _=>⟨by unfold maxLen;omega,hxm,by omega,by omega⟩)|(first|omega|exact id|exact q2j|exact vcG|exact vcH|(intro _;omega)|exact(fun _ h=>h)|(intro h;simp at h;omega)|(simp only[Qa8,Qb5,Qa3,Qa9,Qb6,Qb1];omega)|(intro h;simp[h];done))
      ·
       have hs:Cn.z0q fz (Cn.q2o L fz g k).1 ((k:Int)+1)=true:=h3
       refine Ze (Fe (Fs (Ft (Tq hcx [] [10] [55] [] [Fit (((k:Int)+1)+1)] ?_ (Lr (k+1) ?_ ?_ (Ex 10 (congrArg AV.int (show(((k:Int)+1)+1)=(((k+1):Int)+1)from(by first|rfl|omega|(simp;done)))) Eb) (Hx 11 (congrArg (fun x=>q0d.row 46 (.undos x)) (show(Cn.q2o L fz g k).2=(Cn.q2o L fz g (k+1)).2 from(by rw[Cn.q7q];first|(rw[Cn.step_skip hs];done)|(rw[Cn.q7d hs hy];done)|(rw[Cn.z1d hs hy];done)))) (Hx 606 (o:=.box [.int N,.intss ((Cn.q2o L fz g k).1)]) (o':=.box [.int N,.intss ((Cn.q2o L fz g (k+1)).1)]) (congrArg q0d.box (q0f rfl (q0f (congrArg AV.intss (show(Cn.q2o L fz g k).1=(Cn.q2o L fz g (k+1)).1 from(by rw[Cn.q7q];first|(rw[Cn.step_skip hs];done)|(rw[Cn.q7d hs hy];rfl)|(rw[Cn.z1d hs hy];done)))) rfl))) Hb)))))))
       ·
        refine ap ?_ az
        omega
       ·
        show(k+1)≤N.toNat
        omega
       ·
        show N.toNat-(k+1)<N.toNat-k
        omega
      ·
       have hs:Cn.z0q fz (Cn.q2o L fz g k).1 ((k:Int)+1)=false:=h3
       refine Zk (Ft (Sq hcx [(1008,.to 265),(1013,.to 611),(1014,.to 612),(2008,.to 900)] [11,12,13] [55] [] [Fit ((((Cn.q2o L fz g k).1).length:Int)+g),(((Cn.q2o L fz g k).1).length≤10000∧(∀l∈((Cn.q2o L fz g k).1),l.length≤1000)∧1≤((k:Int)+1)∧((k:Int)+1)≤65536∧0≤(min 65536 ((((Cn.q2o L fz g k).1).length:Int)+g))∧(min 65536 ((((Cn.q2o L fz g k).1).length:Int)+g))≤65536)] ?_ (Sz hcx [] [69] [13] [] (Zi (b:=decide (((Cn.q2r ((Cn.q2o L fz g k).1) ((k:Int)+1) (min 65536 ((((Cn.q2o L fz g k).1).length:Int)+g))).length:Int)≤(min 65536 ((((Cn.q2o L fz g k).1).length:Int)+g)))) (fun h4=>?_) fun h4=>?_))))
       ·
        refine ap ?_ (ap ?_ az)<;>
         first|omega|exact⟨by omega,hxs,by omega,by omega,by omega,by omega⟩
       ·
        have hy:((Cn.q2r (Cn.q2o L fz g k).1 ((k:Int)+1) (Cn.elM g (Cn.q2o L fz g k).1)).length:Int)≤Cn.elM g (Cn.q2o L fz g k).1:=of_decide_eq_true h4
        refine Td hcx hmx [0,0,0,4,14,31,63] [(1004,.to 11),(606,.to 606)] [7] [69,11,12] [611,612,900,11] [((((Cn.q2o L fz g k).2).length+[(((k:Int)+1),(Cn.uOf ((Cn.q2o L fz g k).1) ((k:Int)+1)))].length)*32≤140737488355328)] ?_ (Fb (Ft (Tq hcx [] [10] [] [] [Fit (((k:Int)+1)+1)] ?_ (Fn [(11,.to 11),(606,.to 606),(265,.frz)] [1,2,3,6,7,10] (Lr (k+1) ?_ ?_ (Ex 10 (congrArg AV.int (show(((k:Int)+1)+1)=(((k+1):Int)+1)from(by first|rfl|omega|(simp;done)))) Eb) (Hx 11 (congrArg (fun x=>q0d.row 46 (.undos x)) (show(((Cn.q2o L fz g k).2)++[(((k:Int)+1),(Cn.uOf ((Cn.q2o L fz g k).1) ((k:Int)+1)))])=(Cn.q2o L fz g (k+1)).2 from(by rw[Cn.q7q];first|(rw[Cn.step_skip hs];done)|(rw[Cn.q7d hs hy];done)|(rw[Cn.z1d hs hy];done)))) (Hx 606 (o:=.box [.int N,.intss (Cn.q2r ((Cn.q2o L fz g k).1) ((k:Int)+1) (min 65536 ((((Cn.q2o L fz g k).1).length:Int)+g)))]) (o':=.box [.int N,.intss ((Cn.q2o L fz g (k+1)).1)]) (congrArg q0d.box (q0f rfl (q0f (congrArg AV.intss (show(Cn.q2r ((Cn.q2o L fz g k).1) ((k:Int)+1) (min 65536 ((((Cn.q2o L fz g k).1).length:Int)+g)))=(Cn.q2o L fz g (k+1)).1 from(by rw[Cn.q7q];first|(rw[Cn.step_skip hs];done)|(rw[Cn.q7d hs hy];rfl)|(rw[Cn.z1d hs hy];done)))) rfl))) Hb)))))))
        ·
         refine ap ?_ az
         (first|omega|exact id|exact q2j|exact vcG|exact vcH|(intro _;omega)|exact(fun _ h=>h)|(intro h;simp at h;omega)|(simp only[Qa8,Qb5,Qa3,Qa9,Qb6,Qb1];omega)|(intro h;simp[h];done))
        ·
         refine ap ?_ az
         omega
        ·
         show(k+1)≤N.toNat
         omega
        ·
         show N.toNat-(k+1)<N.toNat-k
         omega
       ·
        have hy:¬((Cn.q2r (Cn.q2o L fz g k).1 ((k:Int)+1) (Cn.elM g (Cn.q2o L fz g k).1)).length:Int)≤Cn.elM g (Cn.q2o L fz g k).1:=of_decide_eq_false h4
        refine Zk (Fb (Ft (Tq hcx [] [10] [69,11,12] [265,611,612,900] [Fit (((k:Int)+1)+1)] ?_ (Lr (k+1) ?_ ?_ (Ex 10 (congrArg AV.int (show(((k:Int)+1)+1)=(((k+1):Int)+1)from(by first|rfl|omega|(simp;done)))) Eb) (Hx 11 (congrArg (fun x=>q0d.row 46 (.undos x)) (show(Cn.q2o L fz g k).2=(Cn.q2o L fz g (k+1)).2 from(by rw[Cn.q7q];first|(rw[Cn.step_skip hs];done)|(rw[Cn.q7d hs hy];done)|(rw[Cn.z1d hs hy];done)))) (Hx 606 (o:=.box [.int N,.intss ((Cn.q2o L fz g k).1)]) (o':=.box [.int N,.intss ((Cn.q2o L fz g (k+1)).1)]) (congrArg q0d.box (q0f rfl (q0f (congrArg AV.intss (show(Cn.q2o L fz g k).1=(Cn.q2o L fz g (k+1)).1 from(by rw[Cn.q7q];first|(rw[Cn.step_skip hs];done)|(rw[Cn.q7d hs hy];rfl)|(rw[Cn.z1d hs hy];done)))) rfl))) Hb))))))
        ·
         refine ap ?_ az
         omega
        ·
         show(k+1)≤N.toNat
         omega
        ·
         show N.toNat-(k+1)<N.toNat-k
         omega
     ·
      exact Ze (Fe (Fe (Fs (Ft (Sz hcx [(606,.to 606)] [7,8] [42,1,2,3,10] [] (Zr (Fn [(606,.to 990),(11,.frz)] [6,7,8] (Rv hcx (congrArg AV.tup (q0f (congrArg AV.agg (q0f (congrArg AV.int (show N=(Cn.elN N L fz g)from(by first|exact hA.symm|exact hB.symm|exact hC.symm|exact hE.symm|(rw[show k=N.toNat from(by omega)];first|exact hB.symm|exact hC.symm)))) (q0f (congrArg AV.intss (show(Cn.q2o L fz g k).1=(Cn.elX N L fz g)from(by first|exact hA.symm|exact hB.symm|exact hC.symm|exact hE.symm|(rw[show k=N.toNat from(by omega)];first|exact hB.symm|exact hC.symm)))) rfl))) (q0f (congrArg AV.undos (show(Cn.q2o L fz g k).2=(Cn.elU N L fz g)from(by first|exact hA.symm|exact hB.symm|exact hC.symm|exact hE.symm|(rw[show k=N.toNat from(by omega)];first|exact hB.symm|exact hC.symm)))) (q0f (congrArg AV.int (show 0=(Cn.elE N L fz g)from(by first|exact hA.symm|exact hB.symm|exact hC.symm|exact hE.symm|(rw[show k=N.toNat from(by omega)];first|exact hB.symm|exact hC.symm)))) rfl)))) [] rfl))))))))
 ·
  cases hσ
end Go.Proofs.YteikjpbbhopkaaaGreatDoor.En
