/- Lemmas and contracts for the row. -/
import Derived.Test.YteikjpbbhopkaaaGreatDoorProg
import Derived.Test.YteikjpbbhopkaaaGreatDoorPkRowElimGatesY
import Derived.Test.YteikjpbbhopkaaaGreatDoorPkRowElimGatesAD
set_option linter.unusedVariables false
set_option linter.unusedSimpArgs false
set_option linter.unnecessarySimpa false
namespace Go.Proofs.YteikjpbbhopkaaaGreatDoor.En
open Go Go.RowKit
def q8g:List (Nat×TD):=[(3,⟨1,false,[.int .i64 0],[],none,8,false,1,1⟩),
 (4,⟨1,false,[.bool false],[],none,1,true,0,2⟩),
 (28,⟨1,false,[.int .i64 0],[],none,8,false,1,1⟩),
 (31,⟨1,false,[.slice none 0 0],[],some 34,24,false,0,0⟩),
 (34,⟨1,false,[.slice none 0 0],[],some 3,24,false,0,3⟩),
 (36,⟨2,true,[.int .i64 0,.slice none 0 0],[(0,3),(1,31)],none,32,false,0,6⟩),
 (40,⟨1,false,[.slice none 0 0],[],some 4,24,false,0,0⟩),
 (60,⟨1,false,[.nilFunc],[],none,8,false,0,0⟩),
 (65,⟨1,false,[.nilFunc],[],none,8,false,0,0⟩),
 (94,⟨1,false,[.int .i64 0],[],none,8,false,1,1⟩)]
theorem q2g:q5u Tryz.prog q8g:=⟨⟨by kernel_rfl,by kernel_rfl,by kernel_rfl⟩,⟨by kernel_rfl,by kernel_rfl,by kernel_rfl⟩,⟨by kernel_rfl,by kernel_rfl,by kernel_rfl⟩,⟨by kernel_rfl,by kernel_rfl,by kernel_rfl⟩,⟨by kernel_rfl,by kernel_rfl,by kernel_rfl⟩,⟨by kernel_rfl,by kernel_rfl,by kernel_rfl⟩,⟨by kernel_rfl,by kernel_rfl,by kernel_rfl⟩,⟨by kernel_rfl,by kernel_rfl,by kernel_rfl⟩,⟨by kernel_rfl,by kernel_rfl,by kernel_rfl⟩,⟨by kernel_rfl,by kernel_rfl,by kernel_rfl⟩,trivial⟩
def x6j:Cx:=⟨q8g,[],false⟩
theorem x3z:q1c Tryz.prog x6j:=q0s q2g trivial
def x0q:CtF
 |[.im (.val (.int .i64 l)),.im (.val (.int .i64 n))],[]=>some (0≤n∧n≤65536,.bool (Cn.q2q l n),[])
 |_,_=>none
theorem j3l:q0c Tryz.prog 46 x0q:=by
 refine Sw (cx:=x6j) Tryz.f46 Tryz.func46 ?_
 intro wW wO wβ G0 args os p r outs hσ hp
 have hcx:=x3z
 unfold x0q at hσ
 split at hσ
 ·
  rename_i l n
  cases hσ
  refine⟨by kernel_rfl,?_⟩
  obtain⟨hn0,hn1⟩:=hp
  refine Sz hcx [] [] [] [] (Sq hcx [] [4] [0,1] [] [((l !=0)=true→((l !=0)=true)),((l !=0)=true→Fit (-n)),((l !=0)=true→((l !=0)=true)),((l !=0)=true→((l !=0)=true)),((l !=0)=true→(l !=0)=true),(((l !=0)&&(decide ((-n)≤l)))=true→(((l !=0)&&(decide ((-n)≤l)))=true)),(((l !=0)&&(decide ((-n)≤l)))=true→(((l !=0)&&(decide ((-n)≤l)))=true)),(((l !=0)&&(decide ((-n)≤l)))=true→((l !=0)&&(decide ((-n)≤l)))=true)] ?_ (Zr (Ru hcx [])))
  ·
   refine ap ?_ (ap ?_ (ap ?_ (ap ?_ (ap (by exact id) (ap ?_ (ap ?_ (ap (by exact id) az)))))))<;>
    first|omega|exact id
 ·
  cases hσ
def k9u:Cx:=⟨q8g,[],false⟩
theorem k0o:q1c Tryz.prog k9u:=q0s q2g trivial
def u5b:CtF
 |[.im (.val (.int .i64 l))],[]=>some (-9223372036854775807≤l∧l≤9223372036854775807,.int (l.natAbs:Int),[])
 |_,_=>none
theorem k3r:q0c Tryz.prog 98 u5b:=by
 refine Sw (cx:=k9u) Tryz.f98 Tryz.func98 ?_
 intro wW wO wβ G0 args os p r outs hσ hp
 have hcx:=k0o
 unfold u5b at hσ
 split at hσ
 ·
  rename_i l
  cases hσ
  refine⟨by kernel_rfl,?_⟩
  obtain⟨hn0,hn1⟩:=hp
  refine Sz hcx [] [] [] [] (Sq hcx [] [2] [0] [] [Fit (-l)] ?_ (Zr (Rv hcx (congrArg AV.int (show(max l (-l))=(l.natAbs:Int)from(by omega))) [] rfl)))
  ·
   refine ap ?_ az
   omega
 ·
  cases hσ
def x1b:Cx:=⟨q8g,[(46,x0q),(98,u5b)],false⟩
theorem y3i:q1c Tryz.prog x1b:=q0s q2g ⟨j3l,k3r,trivial⟩
def y5g:CtF
 |[.im (.val (.int .i64 l)),.im (.ls (.bools a))],[]=>some (a.length≤maxLen,.bool (Cn.z4l a l),[])
 |_,_=>none
theorem y6z:q0c Tryz.prog 59 y5g:=by
 refine Sw (cx:=x1b) Tryz.f59 Tryz.func59 ?_
 intro wW wO wβ G0 args os p r outs hσ hp
 have hcx:=y3i
 unfold y5g at hσ
 split at hσ
 ·
  rename_i l a
  cases hσ
  refine⟨by kernel_rfl,?_⟩
  unfold maxLen at hp
  refine Sz hcx [] [] [] [] (Zs (Sq hcx [] [8] [] [] [(0≤(65536:Int)∧(65536:Int)≤65536)] ?_ (Zi (b:= !(Cn.q2q l (65536:Int))) (fun h0=>?_) fun h0=>?_)))
  ·
   refine ap ?_ az
   omega
  ·
   replace h0:=(u1m h0)
   exact Sz hcx [] [4] [8,0,1] [] (Zr (Fr (Rv hcx (congrArg AV.bool (show false=(Cn.z4l a l)from(by exact(Cn.u3j h0).symm))) [] rfl)))
  ·
   replace h0:=(k1y h0)
   have hmb:=Cn.q5f.1 h0
   refine Zk (Ft (Sq hcx [] [5] [8] [] [(-9223372036854775807≤l∧l≤9223372036854775807)] ?_ (Sq hcx [] [4] [5,0,1] [] [((decide ((l.natAbs:Int)<(a.length:Int)))=true→((decide ((l.natAbs:Int)<(a.length:Int)))=true)),((decide ((l.natAbs:Int)<(a.length:Int)))=true→((decide ((l.natAbs:Int)<(a.length:Int)))=true)),((decide ((l.natAbs:Int)<(a.length:Int)))=true→((0:Int)≤(l.natAbs:Int)∧(l.natAbs:Int)<(a.length:Int))),((decide ((l.natAbs:Int)<(a.length:Int)))=true→((decide ((l.natAbs:Int)<(a.length:Int)))=true)),((decide ((l.natAbs:Int)<(a.length:Int)))=true→(decide ((l.natAbs:Int)<(a.length:Int)))=true)] ?_ (Zr (Rv hcx (congrArg AV.bool (show(((decide ((l.natAbs:Int)<(a.length:Int)))&&(a.getD ((l.natAbs:Int).toNat) false))==(decide (l>0)))=(Cn.z4l a l)from(by exact(Cn.k6s h0).symm))) [] rfl)))))
   ·
    refine ap ?_ az
    omega
   ·
    refine ap ?_ (ap ?_ (ap ?_ (ap ?_ (ap (by exact id) az))))<;>
     first|exact id|(intro h;simp at h;omega)
 ·
  cases hσ
def j2r:Cx:=⟨q8g,[(59,(q1j [.id,.ld (.bools [])] y5g))],false⟩
theorem j6r:q1c Tryz.prog j2r:=q0s q2g ⟨(y6z.coe [.id,.ld (.bools [])] rfl),trivial⟩
def j0b:CtF
 |[.im (.val (.int .i64 x)),.pto [.ls (.bools a)]],[]=>some (a.length≤maxLen,.bool (Cn.z4l a x),[])
 |_,_=>none
theorem j6d:q0c Tryz.prog 58 j0b:=by
 refine Sw (cx:=j2r) Tryz.f58 Tryz.func58 ?_
 intro wW wO wβ G0 args os p r outs hσ hp
 have hcx:=j6r
 unfold j0b at hσ
 split at hσ
 ·
  rename_i x a
  cases hσ
  refine⟨by kernel_rfl,?_⟩
  exact Sz hcx [] [] [] [] (Sq hcx [] [3] [0,1] [] [(a.length≤maxLen)] (ap (by exact hp) az) (Zr (Ru hcx [])))
 ·
  cases hσ
def j2w:Cx:=⟨q8g,[(58,j0b)],false⟩
theorem j5q:q1c Tryz.prog j2w:=q0s q2g ⟨j6d,trivial⟩
def z3a:CtF
 |[.im (.ls (.ints s)),.clo 58 [.pto [.ls (.bools a)]]],[]=>some (s.length≤maxLen∧a.length≤maxLen,.int (Cn.q5r (fun x=>Cn.z4l a x) s),[])
 |_,_=>none
theorem z2z:q0c Tryz.prog 47 z3a:=by
 refine Sw (cx:=j2w) Tryz.f47 Tryz.func47 ?_
 intro wW wO wβ G0 args os p r outs hσ hp
 have hcx:=j5q
 unfold z3a at hσ
 split at hσ
 ·
  rename_i s a
  cases hσ
  refine⟨by kernel_rfl,?_⟩
  obtain⟨hm1,hpr⟩:=hp
  unfold maxLen at hm1
  refine Sz hcx [] [] [] [] (Zs (Sz hcx [] [7,8] [] [] (Zb (Lp (X:=Nat) (fun x0=>x0≤s.length∧∀j,j<x0→(Cn.z4l a (s.getD j 0))=false) (fun x0=>([(0,.ints s),(1,.clo 58 [.pto [.ls (.bools a)]]),(7,.int (s.length:Int)),(8,.int (x0:Int))],[])) (fun x0=>s.length-x0) (0) ?_ (Ex 8 (congrArg AV.int (show 0=(0:Int)from(by first|rfl|omega|(simp;done)))) Eb) Hb fun k hI=>?_))))
  ·
   exact⟨Qc1 _,fun j hj=>by omega⟩
  ·
   try dsimp only at hI
   obtain⟨hk,hok⟩:=hI
   refine Sz hcx [] [9] [] [] (Zs (Zj (p:=((k:Int)<(s.length:Int))) (fun h0=>?_) fun h0=>?_))
   ·
    refine Zk (Ft (Zs (Zb (Sz hcx [] [5] [9] [] (Sq hcx [] [16] [] [] [((0:Int)≤(k:Int)∧(k:Int)<(s.length:Int)),(a.length≤maxLen)] ?_ (Zi (b:=Cn.z4l a (s.getD k 0)) (fun h1=>?_) fun h1=>?_))))))
    ·
     refine ap ?_ (ap ?_ az)<;>
      omega
    ·
     have hq:=h1
     exact Sz hcx [] [4] [16,5,0,1,7,8] [] (Zr (Fk (Fr (Fr (Fk (Fr (Rv hcx (congrArg AV.int (show(k:Int)=(Cn.q5r (fun x=>Cn.z4l a x) s)from(by exact(Cn.q4r (p:=(fun x=>Cn.z4l a x)) (by omega) hok hq).symm))) [] rfl)))))))
    ·
     have hq:=h1
     refine Zk (Fb (Ft (Tq hcx [] [8] [16,5] [] [Fit ((k:Int)+1)] ?_ (Lr (k+1) ?_ ?_ (Ex 8 (congrArg AV.int (show((k:Int)+1)=((k+1):Int)from(by first|rfl|omega|(simp;done)))) Eb) Hb))))
     ·
      refine ap ?_ az
      omega
     ·
      exact⟨by omega,Cn.q4a hok hq⟩
     ·
      show s.length-(k+1)<s.length-k
      omega
   ·
    exact Ze (Fe (Fe (Fs (Ft (Sz hcx [] [4] [9,0,1,7,8] [] (Zr (Rv hcx (congrArg AV.int (show(-1)=(Cn.q5r (fun x=>Cn.z4l a x) s)from(by exact(Cn.q6k (p:=(fun x=>Cn.z4l a x)) (Cn.q7i (d:=0) (fun j hj=>hok j (by omega)))).symm))) [] rfl)))))))
 ·
  cases hσ
def j2x:Cx:=⟨q8g,[(47,(q1j [.ld (.ints []),.id] z3a))],false⟩
theorem j6o:q1c Tryz.prog j2x:=q0s q2g ⟨(z2z.coe [.ld (.ints []),.id] rfl),trivial⟩
def z2q:CtF
 |[.im (.ls (.ints s)),.clo 58 [.pto [.ls (.bools a)]]],[]=>some (s.length≤maxLen∧a.length≤maxLen,.bool (s.any (fun x=>Cn.z4l a x)),[])
 |_,_=>none
theorem z2d:q0c Tryz.prog 20 z2q:=by
 refine Sw (cx:=j2x) Tryz.f20 Tryz.func20 ?_
 intro wW wO wβ G0 args os p r outs hσ hp
 have hcx:=j6o
 unfold z2q at hσ
 split at hσ
 ·
  rename_i s a
  cases hσ
  refine⟨by kernel_rfl,?_⟩
  refine Sz hcx [] [] [] [] (Sq hcx [] [4] [0,1] [] [(s.length≤maxLen∧a.length≤maxLen)] ?_ (Zr (Rv hcx (congrArg AV.bool (show(decide ((Cn.q5r (fun x=>Cn.z4l a x) s)≥0))=(s.any (fun x=>Cn.z4l a x))from(by exact Cn.q4q (p:=(fun x=>Cn.z4l a x)) s))) [] rfl)))
  ·
   refine ap ?_ az
   exact hp
 ·
  cases hσ
def y2w:Cx:=⟨q8g,[(20,(q1j [.ld (.ints []),.id] z2q))],false⟩
theorem y0o:q1c Tryz.prog y2w:=q0s q2g ⟨(z2d.coe [.ld (.ints []),.id] rfl),trivial⟩
def z5o:CtF
 |[.im (.ls (.ints l)),.im (.ls (.bools a))],[]=>some (l.length≤maxLen∧a.length≤maxLen,.bool (Cn.holdsV a l),[])
 |_,_=>none
theorem z5e:q0c Tryz.prog 33 z5o:=by
 refine Sw (cx:=y2w) Tryz.f33 Tryz.func33 ?_
 intro wW wO wβ G0 args os p r outs hσ hp
 have hcx:=y0o
 unfold z5o at hσ
 split at hσ
 ·
  rename_i l a
  cases hσ
  refine⟨by kernel_rfl,?_⟩
  exact Sz hcx [(1000,.frz)] [3] [1] [] (Sq hcx [] [4] [3,0] [] [(l.length≤maxLen∧a.length≤maxLen)] (ap (by exact hp) az) (Zr (Ru hcx [])))
 ·
  cases hσ
def j1b:Cx:=⟨q8g,[(46,x0q)],false⟩
theorem j5w:q1c Tryz.prog j1b:=q0s q2g ⟨j3l,trivial⟩
def z9y:CtF
 |[.im (.val (.int .i64 x)),.pto [.val (.int .i64 N),.ls (.intss L)]],[]=>some (0≤N∧N≤65536,.bool (!(Cn.q2q x N)),[])
 |_,_=>none
theorem j4z:q0c Tryz.prog 45 z9y:=by
 refine Sw (cx:=j1b) Tryz.f45 Tryz.func45 ?_
 intro wW wO wβ G0 args os p r outs hσ hp
 have hcx:=j5w
 unfold z9y at hσ
 split at hσ
 ·
  rename_i x N L
  cases hσ
  refine⟨by kernel_rfl,?_⟩
  exact Sz hcx [] [] [] [] (Sq hcx [] [3] [0,1] [] [(0≤N∧N≤65536)] (ap (by exact hp) az) (Zr (Ru hcx [])))
 ·
  cases hσ
def j1v:Cx:=⟨q8g,[(45,z9y)],false⟩
theorem j5e:q1c Tryz.prog j1v:=q0s q2g ⟨j4z,trivial⟩
def z6n:CtF
 |[.im (.ls (.ints s)),.clo 45 [.pto [.val (.int .i64 N),.ls (.intss L)]]],[]=>some (s.length≤maxLen∧0≤N∧N≤65536,.int (Cn.q5r (fun x=> !(Cn.q2q x N)) s),[])
 |_,_=>none
theorem j7p:q0c Tryz.prog 47 z6n:=by
 refine Sw (cx:=j1v) Tryz.f47 Tryz.func47 ?_
 intro wW wO wβ G0 args os p r outs hσ hp
 have hcx:=j5e
 unfold z6n at hσ
 split at hσ
 ·
  rename_i s N L
  cases hσ
  refine⟨by kernel_rfl,?_⟩
  obtain⟨hm1,hpr⟩:=hp
  unfold maxLen at hm1
  refine Sz hcx [] [] [] [] (Zs (Sz hcx [] [7,8] [] [] (Zb (Lp (X:=Nat) (fun x0=>x0≤s.length∧∀j,j<x0→(!(Cn.q2q (s.getD j 0) N))=false) (fun x0=>([(0,.ints s),(1,.clo 45 [.pto [.int N,.ls (.intss L)]]),(7,.int (s.length:Int)),(8,.int (x0:Int))],[])) (fun x0=>s.length-x0) (0) ?_ (Ex 8 (congrArg AV.int (show 0=(0:Int)from(by first|rfl|omega|(simp;done)))) Eb) Hb fun k hI=>?_))))
  ·
   exact⟨Qc1 _,fun j hj=>by omega⟩
  ·
   try dsimp only at hI
   obtain⟨hk,hok⟩:=hI
   refine Sz hcx [] [9] [] [] (Zs (Zj (p:=((k:Int)<(s.length:Int))) (fun h0=>?_) fun h0=>?_))
   ·
    refine Zk (Ft (Zs (Zb (Sz hcx [] [5] [9] [] (Sq hcx [] [16] [] [] [((0:Int)≤(k:Int)∧(k:Int)<(s.length:Int)),(0≤N∧N≤65536)] ?_ (Zi (b:= !(Cn.q2q (s.getD k 0) N)) (fun h1=>?_) fun h1=>?_))))))
    ·
     refine ap ?_ (ap ?_ az)<;>
      omega
    ·
     have hq:=h1
     exact Sz hcx [] [4] [16,5,0,1,7,8] [] (Zr (Fk (Fr (Fr (Fk (Fr (Rv hcx (congrArg AV.int (show(k:Int)=(Cn.q5r (fun x=> !(Cn.q2q x N)) s)from(by exact(Cn.q4r (p:=(fun x=> !(Cn.q2q x N))) (by omega) hok hq).symm))) [] rfl)))))))
    ·
     have hq:=h1
     refine Zk (Fb (Ft (Tq hcx [] [8] [16,5] [] [Fit ((k:Int)+1)] ?_ (Lr (k+1) ?_ ?_ (Ex 8 (congrArg AV.int (show((k:Int)+1)=((k+1):Int)from(by first|rfl|omega|(simp;done)))) Eb) Hb))))
     ·
      refine ap ?_ az
      omega
     ·
      exact⟨by omega,Cn.q4a hok hq⟩
     ·
      show s.length-(k+1)<s.length-k
      omega
   ·
    exact Ze (Fe (Fe (Fs (Ft (Sz hcx [] [4] [9,0,1,7,8] [] (Zr (Rv hcx (congrArg AV.int (show(-1)=(Cn.q5r (fun x=> !(Cn.q2q x N)) s)from(by exact(Cn.q6k (p:=(fun x=> !(Cn.q2q x N))) (Cn.q7i (d:=0) (fun j hj=>hok j (by omega)))).symm))) [] rfl)))))))
 ·
  cases hσ
def j1i:Cx:=⟨q8g,[(47,(orF (q1j [.ld (.ints []),.id] z3a) (q1j [.ld (.ints []),.id] z6n)))],false⟩
theorem j6b:q1c Tryz.prog j1i:=q0s q2g ⟨((z2z.coe [.ld (.ints []),.id] rfl).or (j7p.coe [.ld (.ints []),.id] rfl)),trivial⟩
def j0a:CtF
 |[.im (.ls (.ints s)),.clo 45 [.pto [.val (.int .i64 N),.ls (.intss L)]]],[]=>some (s.length≤maxLen∧0≤N∧N≤65536,.bool (s.any (fun x=> !(Cn.q2q x N))),[])
 |_,_=>none
theorem j5f:q0c Tryz.prog 20 j0a:=by
 refine Sw (cx:=j1i) Tryz.f20 Tryz.func20 ?_
 intro wW wO wβ G0 args os p r outs hσ hp
 have hcx:=j6b
 unfold j0a at hσ
 split at hσ
 ·
  rename_i s N L
  cases hσ
  refine⟨by kernel_rfl,?_⟩
  refine Sz hcx [] [] [] [] (Sq hcx [] [4] [0,1] [] [(s.length≤maxLen∧0≤N∧N≤65536)] ?_ (Zr (Rv hcx (congrArg AV.bool (show(decide ((Cn.q5r (fun x=> !(Cn.q2q x N)) s)≥0))=(s.any (fun x=> !(Cn.q2q x N)))from(by exact Cn.q4q (p:=(fun x=> !(Cn.q2q x N))) s))) [] rfl)))
  ·
   refine ap ?_ az
   exact hp
 ·
  cases hσ
def y2q:Cx:=⟨q8g,[(20,(orF (q1j [.ld (.ints []),.id] z2q) (q1j [.ld (.ints []),.id] j0a)))],false⟩
theorem j8t:q1c Tryz.prog y2q:=q0s q2g ⟨((z2d.coe [.ld (.ints []),.id] rfl).or (j5f.coe [.ld (.ints []),.id] rfl)),trivial⟩
def z2r:CtF
 |[.agg [.im (.val (.int .i64 N)),.im (.ls (.intss L))]],[]=>some (L.length≤maxLen∧∀l∈L,l.length≤maxLen,.int (Cn.q3x N L),[])
 |_,_=>none
theorem q8y:q0c Tryz.prog 18 z2r:=by
 refine Sw (cx:=y2q) Tryz.f18 Tryz.func18 ?_
 intro wW wO wβ G0 args os p r outs hσ hp
 have hcx:=j8t
 unfold z2r at hσ
 split at hσ
 ·
  rename_i N L
  cases hσ
  refine⟨by kernel_rfl,?_⟩
  obtain⟨hm1,hm2⟩:=hp
  unfold maxLen at hm1
  refine Sz hcx [(1000,.frz)] [1] [0] [] (Zs (Sq hcx [] [12] [] [] [((!(decide (N<0)))=true→((!(decide (N<0)))=true)),((!(decide (N<0)))=true→((!(decide (N<0)))=true)),((decide (N<0))=false→(!(decide (N<0)))=true)] ?_ (Zi (b:=(decide (N<0))||(decide (N>65536))) (fun h0=>?_) fun h0=>?_)))
  ·
   refine ap ?_ (ap ?_ (ap (by exact q2j) az))<;>
    exact id
  ·
   try simp only[Qd2,Qc5,Qa2,Qd5,Qd1,Qe7,decide_eq_true_eq,decide_eq_false_iff_not,bne_iff_ne,bne_eq_false_iff_eq,beq_iff_eq,beq_eq_false_iff_ne]at h0
   exact Sz hcx [] [2] [12,1] [] (Zr (Fr (Rv hcx (congrArg AV.int (show 1=(Cn.q3x N L)from(by exact(Cn.u3y (by omega)).symm))) [] rfl)))
  ·
   try simp only[Qd2,Qc5,Qa2,Qd5,Qd1,Qe7,decide_eq_true_eq,decide_eq_false_iff_not,bne_iff_ne,bne_eq_false_iff_eq,beq_iff_eq,beq_eq_false_iff_ne]at h0
   have hN:¬(N<0∨65536<N):=by omega
   refine Zk (Ft (Zs (Sz hcx [] [14,15,16] [12] [] (Zb (Lp (X:=Nat) (fun x0=>x0≤L.length∧∀j,j<x0→Cn.u7z N (L.getD j [])=false) (fun x0=>([(1,.pto [.int N,.ls (.intss L)]),(14,.intss L),(15,.int (L.length:Int)),(16,.int (x0:Int))],[])) (fun x0=>L.length-x0) (0) ?_ (Ex 16 (congrArg AV.int (show 0=(0:Int)from(by first|rfl|omega|(simp;done)))) Eb) Hb fun k hI=>?_)))))
   ·
    exact⟨Qc1 _,fun j hj=>by omega⟩
   ·
    try dsimp only at hI
    obtain⟨hk,hok⟩:=hI
    refine Sz hcx [] [17] [] [] (Zs (Zj (p:=((k:Int)<(L.length:Int))) (fun h1=>?_) fun h1=>?_))
    ·
     refine Zk (Ft (Zs (Zb (Sq hcx [] [4] [17] [] [((0:Int)≤(k:Int)∧(k:Int)<(L.length:Int))] ?_ (Sq hcx [] [22] [4] [] [((L.getD k []).length≤maxLen∧0≤N∧N≤65536)] ?_ (Zi (b:=(L.getD k []).any (fun x=> !(Cn.q2q x N))) (fun h2=>?_) fun h2=>?_))))))
     ·
      refine ap ?_ az
      omega
     ·
      refine ap ?_ az
      exact⟨hm2 _ (Cn.q0t (by omega)),by omega,by omega⟩
     ·
      have hq:=h2
      exact Sz hcx [] [2] [22,1,14,15,16] [] (Zr (Fk (Fr (Fr (Fk (Fr (Rv hcx (congrArg AV.int (show 1=(Cn.q3x N L)from(by exact(Cn.u2b hN (by omega) hq).symm))) [] rfl)))))))
     ·
      have hq:=h2
      refine Zk (Fb (Ft (Tq hcx [] [16] [22] [] [Fit ((k:Int)+1)] ?_ (Lr (k+1) ?_ ?_ (Ex 16 (congrArg AV.int (show((k:Int)+1)=((k+1):Int)from(by first|rfl|omega|(simp;done)))) Eb) Hb))))
      ·
       refine ap ?_ az
       omega
      ·
       exact⟨by omega,Cn.q4a hok hq⟩
      ·
       show L.length-(k+1)<L.length-k
       omega
    ·
     refine Ze (Fe (Fe (Fs (Ft (Zs (Sz hcx [] [27] [17,1,14,15,16] [] (Zj (p:=((L.length:Int)>65536)) (fun h3=>?_) fun h3=>?_)))))))
     ·
      have hc:=Cn.u1i hN (fun j hj=>hok j (by omega))
      exact Sz hcx [] [2] [27] [] (Zr (Fr (Rv hcx (congrArg AV.int (show 2=(Cn.q3x N L)from(by rw[hc,if_pos (by omega)]))) [] rfl)))
     ·
      have hc:=Cn.u1i hN (fun j hj=>hok j (by omega))
      exact Zk (Ft (Sz hcx [] [2] [27] [] (Zr (Rv hcx (congrArg AV.int (show 0=(Cn.q3x N L)from(by rw[hc,if_neg (by omega)]))) [] rfl))))
 ·
  cases hσ
def j2u:Cx:=⟨q8g,[(33,(q1j [.ld (.ints []),.ld (.bools [])] z5o))],false⟩
theorem j6g:q1c Tryz.prog j2u:=q0s q2g ⟨(z5e.coe [.ld (.ints []),.ld (.bools [])] rfl),trivial⟩
def z7v:CtF
 |[.im (.ls (.ints l)),.pto [.ls (.bools a)]],[]=>some (l.length≤maxLen∧a.length≤maxLen,.bool (!(Cn.holdsV a l)),[])
 |_,_=>none
theorem j4c:q0c Tryz.prog 55 z7v:=by
 refine Sw (cx:=j2u) Tryz.f55 Tryz.func55 ?_
 intro wW wO wβ G0 args os p r outs hσ hp
 have hcx:=j6g
 unfold z7v at hσ
 split at hσ
 ·
  rename_i l a
  cases hσ
  refine⟨by kernel_rfl,?_⟩
  exact Sz hcx [] [] [] [] (Sq hcx [] [3] [0,1] [] [(l.length≤maxLen∧a.length≤maxLen)] (ap (by exact hp) az) (Zr (Ru hcx [])))
 ·
  cases hσ
def j1d:Cx:=⟨q8g,[(55,(q1j [.ld (.ints []),.id] z7v))],false⟩
theorem j5s:q1c Tryz.prog j1d:=q0s q2g ⟨(j4c.coe [.ld (.ints []),.id] rfl),trivial⟩
def z2y:CtF
 |[.im (.ls (.intss s)),.clo 55 [.pto [.ls (.bools a)]]],[]=>some (s.length≤maxLen∧(∀l∈s,l.length≤maxLen)∧a.length≤maxLen,.int (Cn.q5r (fun x=> !(Cn.holdsV a x)) s),[])
 |_,_=>none
theorem z2e:q0c Tryz.prog 50 z2y:=by
 refine Sw (cx:=j1d) Tryz.f50 Tryz.func50 ?_
 intro wW wO wβ G0 args os p r outs hσ hp
 have hcx:=j5s
 unfold z2y at hσ
 split at hσ
 ·
  rename_i s a
  cases hσ
  refine⟨by kernel_rfl,?_⟩
  obtain⟨hm1,hpr⟩:=hp
  unfold maxLen at hm1
  refine Sz hcx [] [] [] [] (Zs (Sz hcx [] [7,8] [] [] (Zb (Lp (X:=Nat) (fun x0=>x0≤s.length∧∀j,j<x0→(!(Cn.holdsV a (s.getD j [])))=false) (fun x0=>([(0,.intss s),(1,.clo 55 [.pto [.ls (.bools a)]]),(7,.int (s.length:Int)),(8,.int (x0:Int))],[])) (fun x0=>s.length-x0) (0) ?_ (Ex 8 (congrArg AV.int (show 0=(0:Int)from(by first|rfl|omega|(simp;done)))) Eb) Hb fun k hI=>?_))))
  ·
   exact⟨Qc1 _,fun j hj=>by omega⟩
  ·
   try dsimp only at hI
   obtain⟨hk,hok⟩:=hI
   refine Sz hcx [] [9] [] [] (Zs (Zj (p:=((k:Int)<(s.length:Int))) (fun h0=>?_) fun h0=>?_))
   ·
    refine Zk (Ft (Zs (Zb (Sz hcx [] [5] [9] [] (Sq hcx [] [16] [] [] [((0:Int)≤(k:Int)∧(k:Int)<(s.length:Int)),((s.getD k []).length≤maxLen∧a.length≤maxLen)] ?_ (Zi (b:= !(Cn.holdsV a (s.getD k []))) (fun h1=>?_) fun h1=>?_))))))
    ·
     refine ap ?_ (ap ?_ az)<;>
      first|omega|exact⟨hpr.1 _ (Cn.q0t (by omega)),hpr.2⟩
    ·
     have hq:=h1
     exact Sz hcx [] [4] [16,5,0,1,7,8] [] (Zr (Fk (Fr (Fr (Fk (Fr (Rv hcx (congrArg AV.int (show(k:Int)=(Cn.q5r (fun x=> !(Cn.holdsV a x)) s)from(by exact(Cn.q4r (p:=(fun x=> !(Cn.holdsV a x))) (by omega) hok hq).symm))) [] rfl)))))))
    ·
     have hq:=h1
     refine Zk (Fb (Ft (Tq hcx [] [8] [16,5] [] [Fit ((k:Int)+1)] ?_ (Lr (k+1) ?_ ?_ (Ex 8 (congrArg AV.int (show((k:Int)+1)=((k+1):Int)from(by first|rfl|omega|(simp;done)))) Eb) Hb))))
     ·
      refine ap ?_ az
      omega
     ·
      exact⟨by omega,Cn.q4a hok hq⟩
     ·
      show s.length-(k+1)<s.length-k
      omega
   ·
    exact Ze (Fe (Fe (Fs (Ft (Sz hcx [] [4] [9,0,1,7,8] [] (Zr (Rv hcx (congrArg AV.int (show(-1)=(Cn.q5r (fun x=> !(Cn.holdsV a x)) s)from(by exact(Cn.q6k (p:=(fun x=> !(Cn.holdsV a x))) (Cn.q7i (d:=[]) (fun j hj=>hok j (by omega)))).symm))) [] rfl)))))))
 ·
  cases hσ
def j2h:Cx:=⟨q8g,[(50,(q1j [.ld (.intss []),.id] z2y))],false⟩
theorem j7g:q1c Tryz.prog j2h:=q0s q2g ⟨(z2e.coe [.ld (.intss []),.id] rfl),trivial⟩
def z1q:CtF
 |[.im (.ls (.intss s)),.clo 55 [.pto [.ls (.bools a)]]],[]=>some (s.length≤maxLen∧(∀l∈s,l.length≤maxLen)∧a.length≤maxLen,.bool (s.any (fun x=> !(Cn.holdsV a x))),[])
 |_,_=>none
theorem z2g:q0c Tryz.prog 23 z1q:=by
 refine Sw (cx:=j2h) Tryz.f23 Tryz.func23 ?_
 intro wW wO wβ G0 args os p r outs hσ hp
 have hcx:=j7g
 unfold z1q at hσ
 split at hσ
 ·
  rename_i s a
  cases hσ
  refine⟨by kernel_rfl,?_⟩
  refine Sz hcx [] [] [] [] (Sq hcx [] [4] [0,1] [] [(s.length≤maxLen∧(∀l∈s,l.length≤maxLen)∧a.length≤maxLen)] ?_ (Zr (Rv hcx (congrArg AV.bool (show(decide ((Cn.q5r (fun x=> !(Cn.holdsV a x)) s)≥0))=(s.any (fun x=> !(Cn.holdsV a x)))from(by exact Cn.q4q (p:=(fun x=> !(Cn.holdsV a x))) s))) [] rfl)))
  ·
   refine ap ?_ az
   exact hp
 ·
  cases hσ
def y2o:Cx:=⟨q8g,[(18,(q1j [.agg [.id,.ld (.intss [])]] z2r)),(23,(q1j [.ld (.intss []),.id] z1q))],false⟩
theorem y0h:q1c Tryz.prog y2o:=q0s q2g ⟨(q8y.coe [.agg [.id,.ld (.intss [])]] rfl),(z2g.coe [.ld (.intss []),.id] rfl),trivial⟩
def j4l:CtF
 |[.agg [.im (.val (.int .i64 N)),.im (.ls (.intss L))],.im (.ls (.bools a))],[]=>some (L.length≤maxLen∧(∀l∈L,l.length≤maxLen)∧a.length≤maxLen,.bool (Cn.j2s N L a),[])
 |_,_=>none
theorem y2t:q0c Tryz.prog 26 j4l:=by
 refine Sw (cx:=y2o) Tryz.f26 Tryz.func26 ?_
 intro wW wO wβ G0 args os p r outs hσ hp
 have hcx:=y0h
 unfold j4l at hσ
 split at hσ
 ·
  rename_i N L a
  cases hσ
  refine⟨by kernel_rfl,?_⟩
  refine Sz hcx [(1000,.frz),(1001,.frz)] [2,3] [0,1] [] (Sz hcx [] [5] [3] [] (Sq hcx [] [4] [5,2] [] [(L.length≤maxLen∧∀l∈L,l.length≤maxLen),(((Cn.q3x N L)==0)=true→(((Cn.q3x N L)==0)=true)),(((Cn.q3x N L)==0)=true→(((Cn.q3x N L)==0)=true)),(((Cn.q3x N L)==0)=true→(((Cn.q3x N L)==0)=true)),(((Cn.q3x N L)==0)=true→(L.length≤maxLen∧(∀l∈L,l.length≤maxLen)∧a.length≤maxLen)),(((Cn.q3x N L)==0)=true→(((Cn.q3x N L)==0)=true)),(((Cn.q3x N L)==0)=true→((Cn.q3x N L)==0)=true)] ?_ (Zr (Rv hcx (congrArg AV.bool (show(((Cn.q3x N L)==0)&&(!(L.any (fun x=> !(Cn.holdsV a x)))))=(Cn.j2s N L a)from(by exact congrArg (fun x=>Cn.q3x N L==0&&x) (Cn.y3l L)))) [] rfl))))
  ·
   refine ap ?_ (ap ?_ (ap ?_ (ap ?_ (ap ?_ (ap ?_ (ap (by exact id) az))))))<;>
    first|exact⟨hp.1,hp.2.1⟩|exact fun _=>hp|(intro h;exact h)
 ·
  cases hσ
def y0y:Cx:=⟨q8g,[],false⟩
theorem y1m:q1c Tryz.prog y0y:=q0s q2g trivial
def j6p:CtF
 |[.im (.ls (.ints s)),.im (.val (.int .i64 v))],[]=>some (s.length≤maxLen,.int (Cn.q5r (fun x=>v==x) s),[])
 |_,_=>none
theorem j8f:q0c Tryz.prog 49 j6p:=by
 refine Sw (cx:=y0y) Tryz.f49 Tryz.func49 ?_
 intro wW wO wβ G0 args os p r outs hσ hp
 have hcx:=y1m
 unfold j6p at hσ
 split at hσ
 ·
  rename_i s v
  cases hσ
  refine⟨by kernel_rfl,?_⟩
  have hm1:=hp
  unfold maxLen at hm1
  refine Sz hcx [] [] [] [] (Zs (Sz hcx [] [7,8] [] [] (Zb (Lp (X:=Nat) (fun x0=>x0≤s.length∧∀j,j<x0→((v==(s.getD j 0)))=false) (fun x0=>([(0,.ints s),(1,.int v),(7,.int (s.length:Int)),(8,.int (x0:Int))],[])) (fun x0=>s.length-x0) (0) ?_ (Ex 8 (congrArg AV.int (show 0=(0:Int)from(by first|rfl|omega|(simp;done)))) Eb) Hb fun k hI=>?_))))
  ·
   exact⟨Qc1 _,fun j hj=>by omega⟩
  ·
   try dsimp only at hI
   obtain⟨hk,hok⟩:=hI
   refine Sz hcx [] [9] [] [] (Zs (Zj (p:=((k:Int)<(s.length:Int))) (fun h0=>?_) fun h0=>?_))
   ·
    refine Zk (Ft (Zs (Zb (Sz hcx [] [5] [9] [] (Sq hcx [] [16] [] [] [((0:Int)≤(k:Int)∧(k:Int)<(s.length:Int))] (ap (by omega) az) (Zi (b:=v==(s.getD k 0)) (fun h1=>?_) fun h1=>?_))))))
    ·
     have hq:=h1
     exact Sz hcx [] [4] [16,5,0,1,7,8] [] (Zr (Fk (Fr (Fr (Fk (Fr (Rv hcx (congrArg AV.int (show(k:Int)=(Cn.q5r (fun x=>v==x) s)from(by exact(Cn.q4r (p:=fun x=>v==x) (by omega) hok hq).symm))) [] rfl)))))))
    ·
     have hq:=h1
     refine Zk (Fb (Ft (Tq hcx [] [8] [16,5] [] [Fit ((k:Int)+1)] (ap (by omega) az) (Lr (k+1) ?_ ?_ (Ex 8 (congrArg AV.int (show((k:Int)+1)=((k+1):Int)from(by first|rfl|omega|(simp;done)))) Eb) Hb))))
     ·
      exact⟨by omega,Cn.q4a hok hq⟩
     ·
      show s.length-(k+1)<s.length-k
      omega
   ·
    exact Ze (Fe (Fe (Fs (Ft (Sz hcx [] [4] [9,0,1,7,8] [] (Zr (Rv hcx (congrArg AV.int (show(-1)=(Cn.q5r (fun x=>v==x) s)from(by exact(Cn.q6k (p:=fun x=>v==x) (Cn.q7i (d:=0) (fun j hj=>hok j (by omega)))).symm))) [] rfl)))))))
 ·
  cases hσ
def z5d:Cx:=⟨q8g,[(49,(q1j [.ld (.ints []),.id] j6p))],false⟩
theorem z7z:q1c Tryz.prog z5d:=q0s q2g ⟨(j8f.coe [.ld (.ints []),.id] rfl),trivial⟩
def q5m:CtF
 |[.im (.ls (.ints s)),.im (.val (.int .i64 v))],[]=>some (s.length≤maxLen,.bool (s.contains v),[])
 |_,_=>none
theorem q3y:q0c Tryz.prog 22 q5m:=by
 refine Sw (cx:=z5d) Tryz.f22 Tryz.func22 ?_
 intro wW wO wβ G0 args os p r outs hσ hp
 have hcx:=z7z
 unfold q5m at hσ
 split at hσ
 ·
  rename_i s v
  cases hσ
  refine⟨by kernel_rfl,?_⟩
  refine Sz hcx [] [] [] [] (Sq hcx [] [4] [0,1] [] [(s.length≤maxLen)] ?_ (Zr (Rv hcx (congrArg AV.bool (show(decide ((Cn.q5r (fun x=>v==x) s)≥0))=(s.contains v)from(by rw[show(decide ((Cn.q5r (fun x=>v==x) s)≥0))=s.any (fun x=>v==x)from Cn.q4q (p:=fun x=>v==x) s];exact List.any_beq))) [] rfl)))
  ·
   refine ap ?_ az
   first|exact hp
 ·
  cases hσ
end Go.Proofs.YteikjpbbhopkaaaGreatDoor.En
namespace Go.Proofs.YteikjpbbhopkaaaGreatDoor.En
open Go Go.RowKit
def z6w:List (Nat×TD):=[(3,⟨1,false,[.int .i64 0],[],none,8,false,1,1⟩),
 (4,⟨1,false,[.bool false],[],none,1,true,0,2⟩),
 (22,⟨1,false,[.slice none 0 0],[],some 24,24,false,0,0⟩),
 (24,⟨4,true,[.int .i64 0,.int .i64 0,.int .i64 0,.slice none 0 0],[(0,3),(1,3),(2,3),(3,22)],none,48,false,0,4⟩),
 (40,⟨1,false,[.slice none 0 0],[],some 4,24,false,0,0⟩),
 (69,⟨1,false,[.nilFunc],[],none,8,false,0,0⟩)]
theorem q6q:q5u Tryz.prog z6w:=⟨⟨by kernel_rfl,by kernel_rfl,by kernel_rfl⟩,⟨by kernel_rfl,by kernel_rfl,by kernel_rfl⟩,⟨by kernel_rfl,by kernel_rfl,by kernel_rfl⟩,⟨by kernel_rfl,by kernel_rfl,by kernel_rfl⟩,⟨by kernel_rfl,by kernel_rfl,by kernel_rfl⟩,⟨by kernel_rfl,by kernel_rfl,by kernel_rfl⟩,trivial⟩
def q4h (nn:Nat):CtF
 |[.agg [.im (.val (.int .i64 q)),.im (.val (.int .i64 v)),.im (.val (.int .i64 k)),.im (.ls (.trees l))],.im (.ls (.bools a))],[]=>some (l.length≤2932031007317∧Fl.q2b l∧a.length≤maxLen∧Fl.q0p l<nn,.bool (Fl.z1p a q v k l),[])
 |_,_=>none
def y8g (nn:Nat):Cx:=⟨z6w,[(11,(q1j [.agg [.id,.id,.id,.ld (.trees [])],.ld (.bools [])] (q4h nn)))],false⟩
theorem y3s (nn:Nat) (hR:q0c Tryz.prog 11 (q4h nn)):q1c Tryz.prog (y8g nn):=q0s q6q ⟨(hR.coe [.agg [.id,.id,.id,.ld (.trees [])],.ld (.bools [])] rfl),trivial⟩
def z4d (nn:Nat):CtF
 |[.agg [.im (.val (.int .i64 q)),.im (.val (.int .i64 v)),.im (.val (.int .i64 k)),.im (.ls (.trees l))],.pto [.ls (.bools a)]],[]=>some (l.length≤2932031007317∧Fl.q2b l∧a.length≤maxLen∧Fl.q0p l<nn,.bool (Fl.z1p a q v k l),[])
 |_,_=>none
theorem q7e (nn:Nat) (hR:q0c Tryz.prog 11 (q4h nn)):q0c Tryz.prog 27 (z4d nn):=by
 refine Sw (cx:=(y8g nn)) Tryz.f27 Tryz.func27 ?_
 intro wW wO wβ G0 args os p r outs hσ hp
 have hcx:=y3s nn hR
 unfold z4d at hσ
 split at hσ
 ·
  rename_i q v k l a
  cases hσ
  refine⟨by kernel_rfl,?_⟩
  exact Sz hcx [(1000,.frz)] [2] [0] [] (Sq hcx [] [3] [2,1] [] [(l.length≤2932031007317∧Fl.q2b l∧a.length≤maxLen∧Fl.q0p l<nn)] (ap (by exact hp) az) (Zr (Ru hcx [])))
 ·
  cases hσ
def u0y (nn:Nat):Cx:=⟨z6w,[(11,(q1j [.agg [.id,.id,.id,.ld (.trees [])],.ld (.bools [])] (q4h nn))),(27,(q1j [.agg [.id,.id,.id,.ld (.trees [])],.id] (z4d nn)))],false⟩
theorem x5m (nn:Nat) (hR:q0c Tryz.prog 11 (q4h nn)):q1c Tryz.prog (u0y nn):=q0s q6q ⟨(hR.coe [.agg [.id,.id,.id,.ld (.trees [])],.ld (.bools [])] rfl),((q7e nn hR).coe [.agg [.id,.id,.id,.ld (.trees [])],.id] rfl),trivial⟩
def x7t (nn:Nat):CtF
 |[.im (.ls (.trees s)),.clo 27 [.pto [.ls (.bools a)]]],[]=>some (s.length≤2932031007317∧Fl.q2b s∧a.length≤maxLen∧Fl.q0p s≤nn,.int (Cn.q5r (Fl.q3l a) s),[])
 |_,_=>none
theorem z7m (nn:Nat) (hR:q0c Tryz.prog 11 (q4h nn)):q0c Tryz.prog 56 (x7t nn):=by
 refine Sw (cx:=(u0y nn)) Tryz.f56 Tryz.func56 ?_
 intro wW wO wβ G0 args os p r outs hσ hp
 have hcx:=x5m nn hR
 unfold x7t at hσ
 split at hσ
 ·
  rename_i s a
  cases hσ
  refine⟨by kernel_rfl,?_⟩
  obtain⟨hm1,hm2,hm3,hsz⟩:=hp
  have hm9:=hm1
  refine Sz hcx [] [] [] [] (Zs (Sz hcx [] [7,8] [] [] (Zb (Lp (X:=Nat) (fun x0=>x0≤s.length∧∀j,j<x0→Fl.q3l a (s.getD j q0a)=false) (fun x0=>([(0,.trees s),(1,.clo 27 [.pto [.ls (.bools a)]]),(7,.int (s.length:Int)),(8,.int (x0:Int))],[])) (fun x0=>s.length-x0) (0) ?_ (Ex 8 (congrArg AV.int (show 0=(0:Int)from(by first|rfl|omega|(simp;done)))) Eb) Hb fun i hI=>?_))))
  ·
   exact⟨Qc1 _,fun j hj=>by omega⟩
  ·
   try dsimp only at hI
   obtain⟨hk,hok⟩:=hI
   have hsub:i<s.length→Fl.q0p (s.getD i q0a).l<Fl.q0p s:=fun h=>Fl.z1z h
   have hlen:i<s.length→_:=fun h=>Fl.z8f hm2 h
   refine Sz hcx [] [9] [] [] (Zs (Zj (p:=((i:Int)<(s.length:Int))) (fun h0=>?_) fun h0=>?_))
   ·
    refine Zk (Ft (Zs (Zb (Sz hcx [] [5] [9] [] (Sq hcx [] [16] [] [] [((0:Int)≤(i:Int)∧(i:Int)<(s.length:Int)),(((s.getD i q0a).l).length≤2932031007317∧Fl.q2b ((s.getD i q0a).l)∧a.length≤maxLen∧Fl.q0p ((s.getD i q0a).l)<nn)] ?_ (Zi (b:=Fl.z1p a ((s.getD i q0a).kind) ((s.getD i q0a).v) ((s.getD i q0a).k) ((s.getD i q0a).l)) (fun h1=>?_) fun h1=>?_))))))
    ·
     refine ap ?_ (ap ?_ az)<;>
      first|omega|(have h8:=hsub (by omega);have h7:=hlen (by omega);exact⟨h7.1,h7.2,hm3,by omega⟩)
    ·
     have hq:Fl.q3l a (s.getD i q0a)=true:=(Fl.j8j a _).symm.trans h1
     exact Sz hcx [] [4] [16,5,0,1,7,8] [] (Zr (Fk (Fr (Fr (Fk (Fr (Rv hcx (congrArg AV.int (show(i:Int)=(Cn.q5r (Fl.q3l a) s)from(by exact(Cn.q4r (p:=Fl.q3l a) (by omega) hok hq).symm))) [] rfl)))))))
    ·
     have hq:Fl.q3l a (s.getD i q0a)=false:=(Fl.j8j a _).symm.trans h1
     refine Zk (Fb (Ft (Tq hcx [] [8] [16,5] [] [Fit ((i:Int)+1)] ?_ (Lr (i+1) ?_ ?_ (Ex 8 (congrArg AV.int (show((i:Int)+1)=((i+1):Int)from(by first|rfl|omega|(simp;done)))) Eb) Hb))))
     ·
      refine ap ?_ az
      omega
     ·
      exact⟨by omega,fun j hj=>by rcases(by omega:j<i∨j=i)with h|rfl;exact hok j h;exact hq⟩
     ·
      show s.length-(i+1)<s.length-i
      omega
   ·
    exact Ze (Fe (Fe (Fs (Ft (Sz hcx [] [4] [9,0,1,7,8] [] (Zr (Rv hcx (congrArg AV.int (show(-1)=(Cn.q5r (Fl.q3l a) s)from(by exact(Cn.q6k (p:=Fl.q3l a) (Cn.q7i (d:=q0a) (fun j hj=>hok j (by omega)))).symm))) [] rfl)))))))
 ·
  cases hσ
def u0s (nn:Nat):Cx:=⟨z6w,[(11,(q1j [.agg [.id,.id,.id,.ld (.trees [])],.ld (.bools [])] (q4h nn))),(27,(q1j [.agg [.id,.id,.id,.ld (.trees [])],.id] (z4d nn))),(56,(q1j [.ld (.trees []),.id] (x7t nn)))],false⟩
theorem k0d (nn:Nat) (hR:q0c Tryz.prog 11 (q4h nn)):q1c Tryz.prog (u0s nn):=q0s q6q ⟨(hR.coe [.agg [.id,.id,.id,.ld (.trees [])],.ld (.bools [])] rfl),((q7e nn hR).coe [.agg [.id,.id,.id,.ld (.trees [])],.id] rfl),((z7m nn hR).coe [.ld (.trees []),.id] rfl),trivial⟩
def k4u (nn:Nat):CtF
 |[.im (.ls (.trees s)),.clo 27 [.pto [.ls (.bools a)]]],[]=>some (s.length≤2932031007317∧Fl.q2b s∧a.length≤maxLen∧Fl.q0p s≤nn,.bool (s.any (Fl.q3l a)),[])
 |_,_=>none
theorem j8u (nn:Nat) (hR:q0c Tryz.prog 11 (q4h nn)):q0c Tryz.prog 28 (k4u nn):=by
 refine Sw (cx:=(u0s nn)) Tryz.f28 Tryz.func28 ?_
 intro wW wO wβ G0 args os p r outs hσ hp
 have hcx:=k0d nn hR
 unfold k4u at hσ
 split at hσ
 ·
  rename_i s a
  cases hσ
  refine⟨by kernel_rfl,?_⟩
  refine Sz hcx [] [] [] [] (Sq hcx [] [4] [0,1] [] [(s.length≤2932031007317∧Fl.q2b s∧a.length≤maxLen∧Fl.q0p s≤nn)] ?_ (Zr (Rv hcx (congrArg AV.bool (show(decide ((Cn.q5r (Fl.q3l a) s)≥0))=(s.any (Fl.q3l a))from(by exact Cn.q4q (p:=Fl.q3l a) s))) [] rfl)))
  ·
   refine ap ?_ az
   exact hp
 ·
  cases hσ
def u0w (nn:Nat):Cx:=⟨z6w,[(11,(q1j [.agg [.id,.id,.id,.ld (.trees [])],.ld (.bools [])] (q4h nn))),(27,(q1j [.agg [.id,.id,.id,.ld (.trees [])],.id] (z4d nn))),(56,(q1j [.ld (.trees []),.id] (x7t nn))),(28,(q1j [.ld (.trees []),.id] (k4u nn)))],false⟩
theorem x6c (nn:Nat) (hR:q0c Tryz.prog 11 (q4h nn)):q1c Tryz.prog (u0w nn):=q0s q6q ⟨(hR.coe [.agg [.id,.id,.id,.ld (.trees [])],.ld (.bools [])] rfl),((q7e nn hR).coe [.agg [.id,.id,.id,.ld (.trees [])],.id] rfl),((z7m nn hR).coe [.ld (.trees []),.id] rfl),((j8u nn hR).coe [.ld (.trees []),.id] rfl),trivial⟩
def u3u (nn:Nat):CtF
 |[.im (.ls (.trees s)),.clo 27 [.pto [.ls (.bools a)]]],[]=>some (s.length≤2932031007317∧Fl.q2b s∧a.length≤maxLen∧Fl.q0p s≤nn,.row 0,[some (.row 24 (.trees (s.filter (Fl.q3l a))))])
 |_,_=>none
theorem x9b (nn:Nat) (hR:q0c Tryz.prog 11 (q4h nn)):q0c Tryz.prog 29 (u3u nn):=by
 refine Sw (cx:=(u0w nn)) Tryz.f29 Tryz.func29 ?_
 intro wW wO wβ G0 args os p r outs hσ hp
 have hcx:=x6c nn hR
 unfold u3u at hσ
 split at hσ
 ·
  rename_i s a
  cases hσ
  refine⟨by kernel_rfl,?_⟩
  obtain⟨hm1,hm2,hm3,hsz⟩:=hp
  have hm9:=hm1
  refine Sz hcx [] [4] [] [] (Zs (Sz hcx [] [7,8,9] [0] [] (Zb (Zw 4 4 24 (.trees []) (Lp (X:=Nat) (fun x0=>x0≤s.length) (fun x0=>([(1,.clo 27 [.pto [.ls (.bools a)]]),(4,.row 4),(7,.trees s),(8,.int (s.length:Int)),(9,.int (x0:Int))],[(4,.row 24 (.trees ((s.take x0).filter (Fl.q3l a))))])) (fun x0=>s.length-x0) (0) ?_ (Ex 9 (congrArg AV.int (show 0=(0:Int)from(by first|rfl|omega|(simp;done)))) Eb) Hb fun i hI=>?_)))))
  ·
   show 0≤s.length
   omega
  ·
   replace hI:i≤s.length:=hI
   have hsub:i<s.length→Fl.q0p (s.getD i q0a).l<Fl.q0p s:=fun h=>Fl.z1z h
   have hlen:i<s.length→_:=fun h=>Fl.z8f hm2 h
   have hfl:((s.take i).filter (Fl.q3l a)).length≤i:=Qc0 (Qd8 _ _) (by rw[Qd0];omega)
   refine Sz hcx [] [10] [] [] (Zs (Zj (p:=((i:Int)<(s.length:Int))) (fun h0=>?_) fun h0=>?_))
   ·
    refine Zk (Ft (Zs (Zb (Sq hcx [(1002,.to 606)] [6] [10] [] [((0:Int)≤(i:Int)∧(i:Int)<(s.length:Int))] ?_ (Sq hcx [] [15] [] [] [(((s.getD i q0a).l).length≤2932031007317∧Fl.q2b ((s.getD i q0a).l)∧a.length≤maxLen∧Fl.q0p ((s.getD i q0a).l)<nn)] ?_ (Zi (b:=Fl.z1p a ((s.getD i q0a).kind) ((s.getD i q0a).v) ((s.getD i q0a).k) ((s.getD i q0a).l)) (fun h1=>?_) fun h1=>?_))))))
    ·
     refine ap ?_ az
     omega
    ·
     refine ap ?_ az
     (have h8:=hsub (by omega);have h7:=hlen (by omega);exact⟨h7.1,h7.2,hm3,by omega⟩)
    ·
     have hq:Fl.q3l a (s.getD i q0a)=true:=(Fl.j8j a _).symm.trans h1
     refine Tq hcx [(1003,.to 4)] [4] [15,6] [606,4] [((((s.take i).filter (Fl.q3l a)).length+[(Tree.node ((s.getD i q0a).kind) ((s.getD i q0a).v) ((s.getD i q0a).k) ((s.getD i q0a).l))].length)*48≤140737488355328)] ?_ (Fb (Ft (Tq hcx [] [9] [] [] [Fit ((i:Int)+1)] ?_ (Lr (i+1) ?_ ?_ (Ex 9 (congrArg AV.int (show((i:Int)+1)=((i+1):Int)from(by first|rfl|omega|(simp;done)))) Eb) (Hx 4 (congrArg (fun x=>q0d.row 24 (.trees x)) (show(((s.take i).filter (Fl.q3l a))++[(Tree.node ((s.getD i q0a).kind) ((s.getD i q0a).v) ((s.getD i q0a).k) ((s.getD i q0a).l))])=((s.take (i+1)).filter (Fl.q3l a))from(by first|(rw[Fl.x0y];exact Fl.y7z (by omega) hq)|exact Fl.k0h (by omega) hq))) Hb)))))
     ·
      refine ap ?_ az
      (simp only[Qa8,Qb5,Qa3,Qa9,Qb6,Qb1];omega)
     ·
      refine ap ?_ az
      omega
     ·
      show(i+1)≤s.length
      omega
     ·
      show s.length-(i+1)<s.length-i
      omega
    ·
     have hq:Fl.q3l a (s.getD i q0a)=false:=(Fl.j8j a _).symm.trans h1
     refine Zk (Fb (Ft (Tq hcx [] [9] [15,6] [606] [Fit ((i:Int)+1)] ?_ (Lr (i+1) ?_ ?_ (Ex 9 (congrArg AV.int (show((i:Int)+1)=((i+1):Int)from(by first|rfl|omega|(simp;done)))) Eb) (Hx 4 (congrArg (fun x=>q0d.row 24 (.trees x)) (show((s.take i).filter (Fl.q3l a))=((s.take (i+1)).filter (Fl.q3l a))from(by first|(rw[Fl.x0y];exact Fl.y7z (by omega) hq)|exact Fl.k0h (by omega) hq))) Hb)))))
     ·
      refine ap ?_ az
      omega
     ·
      show(i+1)≤s.length
      omega
     ·
      show s.length-(i+1)<s.length-i
      omega
   ·
    exact Ze (Fe (Fe (Fs (Ft (Sz hcx [] [4] [10,1,7,8,9] [] (Zr (Fn [(4,.to 0)] [4] (Rv hcx rfl [true] (q1g (congrArg some (congrArg (fun x=>q0d.row 24 (.trees x)) (show((s.take i).filter (Fl.q3l a))=(s.filter (Fl.q3l a))from(by rw[show i=s.length by omega,Qd3])))) rfl)))))))))
 ·
  cases hσ
def k2u (nn:Nat):Cx:=⟨z6w,[(11,(q1j [.agg [.id,.id,.id,.ld (.trees [])],.ld (.bools [])] (q4h nn))),(27,(q1j [.agg [.id,.id,.id,.ld (.trees [])],.id] (z4d nn))),(56,(q1j [.ld (.trees []),.id] (x7t nn))),(28,(q1j [.ld (.trees []),.id] (k4u nn))),(29,(q1j [.ld (.trees []),.id] (u3u nn)))],false⟩
theorem x2l (nn:Nat) (hR:q0c Tryz.prog 11 (q4h nn)):q1c Tryz.prog (k2u nn):=q0s q6q ⟨(hR.coe [.agg [.id,.id,.id,.ld (.trees [])],.ld (.bools [])] rfl),((q7e nn hR).coe [.agg [.id,.id,.id,.ld (.trees [])],.id] rfl),((z7m nn hR).coe [.ld (.trees []),.id] rfl),((j8u nn hR).coe [.ld (.trees []),.id] rfl),((x9b nn hR).coe [.ld (.trees []),.id] rfl),trivial⟩
theorem x5z (nn:Nat) (hR:q0c Tryz.prog 11 (q4h nn)):q0c Tryz.prog 11 (q4h (nn+1)):=by
 refine Sw (cx:=(k2u nn)) Tryz.f11 Tryz.func11 ?_
 intro wW wO wβ G0 args os p r outs hσ hp
 have hcx:=x2l nn hR
 have hmx:Tryz.prog.follows .mixedOrders=true:=by kernel_rfl
 unfold q4h at hσ
 split at hσ
 ·
  rename_i q v k l a
  cases hσ
  refine⟨by kernel_rfl,?_⟩
  obtain⟨hm1,hm2,hm3,hsz⟩:=hp
  have hm9:=hm1
  have ha9:=hm3
  unfold maxLen at ha9
  refine Sz hcx [(1000,.frz),(1001,.frz)] [2,3] [0,1] [] (Sz hcx [] [5] [] [] (Zs (Sz hcx [] [8] [] [] (Zb (Sz hcx [] [9] [] [] (Zu (a:=q) (b:=1) (fun h0=>?_) fun h0=>?_))))))
  ·
   exact Sz hcx [] [4] [9,8,5,2,3] [] (Zr (Fk (Fr (Rv hcx (congrArg AV.bool (show(v==1)=(Fl.z1p a q v k l)from(by first|exact Fl.vn1 (by omega)|exact Fl.u5w (by omega) (by omega)|exact Fl.vn3 (by omega)|exact Fl.vn4 (by omega)|exact Fl.vn5 (by omega)|exact Fl.vn6 (by omega)|exact Fl.vn0 (by omega) (by omega) (by omega) (by omega) (by omega) (by omega)|done))) [] rfl))))
  ·
   refine Sz hcx [] [14] [9] [] (Zu (a:=q) (b:=2) (fun h1=>?_) fun h1=>?_)
   ·
    refine Sq hcx [] [4] [14,8,5,2,3] [] [((decide (0<v))=true→((decide (0<v))=true)),((decide (0<v))=true→((decide (0<v))=true)),((decide (0<v))=true→((decide (0<v))=true)),((decide (0<v))=true→((decide (0<v))=true)),((decide (0<v))=true→(decide (0<v))=true),(((decide (0<v))&&(decide (v<(a.length:Int))))=true→(((decide (0<v))&&(decide (v<(a.length:Int))))=true)),(((decide (0<v))&&(decide (v<(a.length:Int))))=true→(((decide (0<v))&&(decide (v<(a.length:Int))))=true)),(((decide (0<v))&&(decide (v<(a.length:Int))))=true→(((decide (0<v))&&(decide (v<(a.length:Int))))=true)),(((decide (0<v))&&(decide (v<(a.length:Int))))=true→((0:Int)≤v∧v<(a.length:Int))),(((decide (0<v))&&(decide (v<(a.length:Int))))=true→(((decide (0<v))&&(decide (v<(a.length:Int))))=true)),(((decide (0<v))&&(decide (v<(a.length:Int))))=true→((decide (0<v))&&(decide (v<(a.length:Int))))=true)] ?_ (Zr (Fk (Fr (Rv hcx (congrArg AV.bool (show(((decide (0<v))&&(decide (v<(a.length:Int))))&&(a.getD v.toNat false))=(Fl.z1p a q v k l)from(by first|exact Fl.vn1 (by omega)|exact Fl.u5w (by omega) (by omega)|exact Fl.vn3 (by omega)|exact Fl.vn4 (by omega)|exact Fl.vn5 (by omega)|exact Fl.vn6 (by omega)|exact Fl.vn0 (by omega) (by omega) (by omega) (by omega) (by omega) (by omega)|done))) [] rfl))))
    ·
     refine ap ?_ (ap ?_ (ap ?_ (ap ?_ (ap (by exact id) (ap ?_ (ap ?_ (ap ?_ (ap ?_ (ap ?_ (ap (by exact id) az))))))))))<;>
      first|exact id|(intro h;simp at h;omega)
   ·
    refine Sz hcx [] [33] [14,3] [] (Zu (a:=q) (b:=3) (fun h2=>?_) fun h2=>?_)
    ·
     refine Sq hcx [] [4] [33,8,5,2] [] [(l.length≤2932031007317∧Fl.q2b l∧a.length≤maxLen∧Fl.q0p l≤nn)] ?_ (Zr (Fk (Fr (Rv hcx (congrArg AV.bool (show(!(l.any (Fl.q3l a)))=(Fl.z1p a q v k l)from(by first|exact Fl.vn1 (by omega)|exact Fl.u5w (by omega) (by omega)|exact Fl.vn3 (by omega)|exact Fl.vn4 (by omega)|exact Fl.vn5 (by omega)|exact Fl.vn6 (by omega)|exact Fl.vn0 (by omega) (by omega) (by omega) (by omega) (by omega) (by omega)|done))) [] rfl))))
     ·
      refine ap ?_ az
      exact⟨hm1,hm2,hm3,by omega⟩
    ·
     refine Sz hcx [] [40] [33] [] (Zu (a:=q) (b:=4) (fun h3=>?_) fun h3=>?_)
     ·
      refine Sd hcx hmx [0,1,0,7,15,0,32,96,255,511] [] [4] [40,8,5,2] [] [(l.length≤2932031007317∧Fl.q2b l∧a.length≤maxLen∧Fl.q0p l≤nn)] ?_ (Zr (Fk (Fr (Rv hcx (congrArg AV.bool (show(((l.filter (Fl.q3l a)).length:Int)==(l.length:Int))=(Fl.z1p a q v k l)from(by first|exact Fl.vn1 (by omega)|exact Fl.u5w (by omega) (by omega)|exact Fl.vn3 (by omega)|exact Fl.vn4 (by omega)|exact Fl.vn5 (by omega)|exact Fl.vn6 (by omega)|exact Fl.vn0 (by omega) (by omega) (by omega) (by omega) (by omega) (by omega)|done))) [] rfl))))
      ·
       refine ap ?_ az
       exact⟨hm1,hm2,hm3,by omega⟩
     ·
      refine Sz hcx [] [51] [40] [] (Zu (a:=q) (b:=5) (fun h4=>?_) fun h4=>?_)
      ·
       refine Sq hcx [] [4] [51,8,5,2] [] [(l.length≤2932031007317∧Fl.q2b l∧a.length≤maxLen∧Fl.q0p l≤nn)] ?_ (Zr (Fk (Fr (Rv hcx (congrArg AV.bool (show(l.any (Fl.q3l a))=(Fl.z1p a q v k l)from(by first|exact Fl.vn1 (by omega)|exact Fl.u5w (by omega) (by omega)|exact Fl.vn3 (by omega)|exact Fl.vn4 (by omega)|exact Fl.vn5 (by omega)|exact Fl.vn6 (by omega)|exact Fl.vn0 (by omega) (by omega) (by omega) (by omega) (by omega) (by omega)|done))) [] rfl))))
       ·
        refine ap ?_ az
        exact⟨hm1,hm2,hm3,by omega⟩
      ·
       refine Sz hcx [] [57] [51,8] [] (Zu (a:=q) (b:=6) (fun h5=>?_) fun h5=>?_)
       ·
        refine Sd hcx hmx [0,1,0,7,15,0,32,127,255] [] [4] [57,5,2] [] [(l.length≤2932031007317∧Fl.q2b l∧a.length≤maxLen∧Fl.q0p l≤nn)] ?_ (Zr (Fk (Fr (Rv hcx (congrArg AV.bool (show(decide (((l.filter (Fl.q3l a)).length:Int)≥k))=(Fl.z1p a q v k l)from(by first|exact Fl.vn1 (by omega)|exact Fl.u5w (by omega) (by omega)|exact Fl.vn3 (by omega)|exact Fl.vn4 (by omega)|exact Fl.vn5 (by omega)|exact Fl.vn6 (by omega)|exact Fl.vn0 (by omega) (by omega) (by omega) (by omega) (by omega) (by omega)|done))) [] rfl))))
        ·
         refine ap ?_ az
         exact⟨hm1,hm2,hm3,by omega⟩
       ·
        exact Zk (Fb (Ft (Sz hcx [] [4] [57,5,2] [] (Zr (Rv hcx (congrArg AV.bool (show false=(Fl.z1p a q v k l)from(by first|exact Fl.vn1 (by omega)|exact Fl.u5w (by omega) (by omega)|exact Fl.vn3 (by omega)|exact Fl.vn4 (by omega)|exact Fl.vn5 (by omega)|exact Fl.vn6 (by omega)|exact Fl.vn0 (by omega) (by omega) (by omega) (by omega) (by omega) (by omega)|done))) [] rfl)))))
 ·
  cases hσ
theorem k6u:∀nn,q0c Tryz.prog 11 (q4h nn):=z2k (z4a (fn:=Tryz.f11) Tryz.func11 (by kernel_rfl) rfl (fun args os p r outs hσ hp=>by
 unfold q4h at hσ
 split at hσ
 ·simp only[Option.some.injEq,Prod.mk.injEq]at hσ
  obtain⟨rfl,rfl,rfl⟩:=hσ
  exact absurd hp.2.2.2 (Qp3 _)
 ·cases hσ)) x5z
def k2k:CtF
 |[.agg [.im (.val (.int .i64 q)),.im (.val (.int .i64 v)),.im (.val (.int .i64 k)),.im (.ls (.trees l))],.im (.ls (.bools a))],[]=>some (l.length≤2932031007317∧Fl.q2b l∧a.length≤maxLen,.bool (Fl.z1p a q v k l),[])
 |_,_=>none
theorem x4f:q0c Tryz.prog 11 k2k:=z6r k6u (fun args os p r outs hσ hp=>by
 unfold k2k at hσ
 split at hσ
 ·rename_i q v k l a
  simp only[Option.some.injEq,Prod.mk.injEq]at hσ
  obtain⟨rfl,rfl,rfl⟩:=hσ
  exact⟨Fl.q0p l+1,_,rfl,⟨hp.1,hp.2.1,hp.2.2,Qk9 _⟩⟩
 ·cases hσ)
def j2a:Cx:=⟨z6w,[],false⟩
theorem j4b:q1c Tryz.prog j2a:=q0s q6q trivial
def z8v:CtF
 |[.agg [.im (.val (.int .i64 q)),.im (.val (.int .i64 v)),.im (.val (.int .i64 k)),.im (.ls (.trees l))],.im (.val (.int .i64 n))],[]=>some (l.length≤maxLen,.bool (Fl.q5o n q v k l.length),[])
 |_,_=>none
theorem j3t:q0c Tryz.prog 66 z8v:=by
 refine Sw (cx:=j2a) Tryz.f66 Tryz.func66 ?_
 intro wW wO wβ G0 args os p r outs hσ hp
 have hcx:=j4b
 unfold z8v at hσ
 split at hσ
 ·
  rename_i q v k l n
  cases hσ
  refine⟨by kernel_rfl,?_⟩
  have hm9:=hp
  unfold maxLen at hm9
  refine Sz hcx [(1000,.frz)] [2] [0] [] (Zs (Sq hcx [] [12] [] [] [((q !=6)=true→((q !=6)=true)),((q !=6)=true→((q !=6)=true)),((q !=6)=true→(q !=6)=true)] ?_ (Zi (b:=(q !=6)&&(k !=0)) (fun h0=>?_) fun h0=>?_)))
  ·
   refine ap ?_ (ap ?_ (ap (by exact id) az))<;>
    exact id
  ·
   have hk0:=h0
   exact Sz hcx [] [4] [12,2,1] [] (Zr (Fr (Rv hcx (congrArg AV.bool (show false=(Fl.q5o n q v k l.length)from(by first|exact Fl.fm0 hk0|exact Fl.fm1 hk (by omega)|exact Fl.fm2 hk (by omega) (by omega)|exact Fl.fm3 hk (by omega)|exact Fl.fm4 hk (by omega)|exact Fl.fm6 (by omega)|exact Fl.fm9 (by omega) (by omega) (by omega) (by omega) (by omega) (by omega)|done))) [] rfl)))
  ·
   have hk:=h0
   refine Zk (Ft (Zs (Sz hcx [] [14] [12] [] (Zb (Sz hcx [] [15] [] [] (Zu (a:=q) (b:=1) (fun h1=>?_) fun h1=>?_))))))
   ·
    refine Sq hcx [] [4] [15,14,2,1] [] [((!(v==0))=true→((!(v==0))=true)),((!(v==0))=true→((!(v==0))=true)),((v==0)=false→(!(v==0))=true),(((v==0)||(v==1))=true→(((v==0)||(v==1))=true)),(((v==0)||(v==1))=true→(((v==0)||(v==1))=true)),(((v==0)||(v==1))=true→(((v==0)||(v==1))=true)),(((v==0)||(v==1))=true→((v==0)||(v==1))=true)] ?_ (Zr (Fk (Fr (Rv hcx (congrArg AV.bool (show(((v==0)||(v==1))&&((l.length:Int)==0))=(Fl.q5o n q v k l.length)from(by first|exact Fl.fm0 hk0|exact Fl.fm1 hk (by omega)|exact Fl.fm2 hk (by omega) (by omega)|exact Fl.fm3 hk (by omega)|exact Fl.fm4 hk (by omega)|exact Fl.fm6 (by omega)|exact Fl.fm9 (by omega) (by omega) (by omega) (by omega) (by omega) (by omega)|done))) [] rfl))))
    ·
     refine ap ?_ (ap ?_ (ap (by exact q2j) (ap ?_ (ap ?_ (ap ?_ (ap (by exact id) az))))))<;>
      exact id
   ·
    refine Sz hcx [] [31] [15] [] (Zu (a:=q) (b:=2) (fun h2=>?_) fun h2=>?_)
    ·
     refine Sq hcx [] [4] [31,14,2,1] [] [((decide (1≤v))=true→((decide (1≤v))=true)),((decide (1≤v))=true→((decide (1≤v))=true)),((decide (1≤v))=true→((decide (1≤v))=true)),((decide (1≤v))=true→(decide (1≤v))=true),(((decide (1≤v))&&(decide (v≤n)))=true→(((decide (1≤v))&&(decide (v≤n)))=true)),(((decide (1≤v))&&(decide (v≤n)))=true→(((decide (1≤v))&&(decide (v≤n)))=true)),(((decide (1≤v))&&(decide (v≤n)))=true→(((decide (1≤v))&&(decide (v≤n)))=true)),(((decide (1≤v))&&(decide (v≤n)))=true→((decide (1≤v))&&(decide (v≤n)))=true)] ?_ (Zr (Fk (Fr (Rv hcx (congrArg AV.bool (show(((decide (1≤v))&&(decide (v≤n)))&&((l.length:Int)==0))=(Fl.q5o n q v k l.length)from(by first|exact Fl.fm0 hk0|exact Fl.fm1 hk (by omega)|exact Fl.fm2 hk (by omega) (by omega)|exact Fl.fm3 hk (by omega)|exact Fl.fm4 hk (by omega)|exact Fl.fm6 (by omega)|exact Fl.fm9 (by omega) (by omega) (by omega) (by omega) (by omega) (by omega)|done))) [] rfl))))
     ·
      refine ap ?_ (ap ?_ (ap ?_ (ap (by exact id) (ap ?_ (ap ?_ (ap ?_ (ap (by exact id) az)))))))<;>
       exact id
    ·
     refine Sz hcx [] [48] [31,1] [] (Zu (a:=q) (b:=3) (fun h3=>?_) fun h3=>?_)
     ·
      refine Sq hcx [] [4] [48,14,2] [] [((v==0)=true→((v==0)=true)),((v==0)=true→((v==0)=true)),((v==0)=true→((v==0)=true)),((v==0)=true→(v==0)=true)] ?_ (Zr (Fk (Fr (Rv hcx (congrArg AV.bool (show((v==0)&&((l.length:Int)==1))=(Fl.q5o n q v k l.length)from(by first|exact Fl.fm0 hk0|exact Fl.fm1 hk (by omega)|exact Fl.fm2 hk (by omega) (by omega)|exact Fl.fm3 hk (by omega)|exact Fl.fm4 hk (by omega)|exact Fl.fm6 (by omega)|exact Fl.fm9 (by omega) (by omega) (by omega) (by omega) (by omega) (by omega)|done))) [] rfl))))
      ·
       refine ap ?_ (ap ?_ (ap ?_ (ap (by exact id) az)))<;>
        exact id
     ·
      refine Zs (Sz hcx [] [59] [48] [] (Zu (a:=q) (b:=4) (fun h4=>?_) fun h4=>?_))
      ·
       refine Zk (Ft (Zu (a:=q) (b:=4) (fun h5=>?_) fun h5=>?_))
       ·
        exact Sz hcx [] [4] [59,14,2] [] (Zr (Fk (Fr (Rv hcx (congrArg AV.bool (show(v==0)=(Fl.q5o n q v k l.length)from(by first|exact Fl.fm0 hk0|exact Fl.fm1 hk (by omega)|exact Fl.fm2 hk (by omega) (by omega)|exact Fl.fm3 hk (by omega)|exact Fl.fm4 hk (by omega)|exact Fl.fm6 (by omega)|exact Fl.fm9 (by omega) (by omega) (by omega) (by omega) (by omega) (by omega)|done))) [] rfl))))
       ·
        refine Sz hcx [] [65] [59,14] [] (Zu (a:=q) (b:=6) (fun h6=>?_) fun h6=>?_)
        ·
         refine Sq hcx [] [4] [65,2] [] [((v==0)=true→((v==0)=true)),((v==0)=true→((v==0)=true)),((v==0)=true→(v==0)=true),(((v==0)&&(decide (0≤k)))=true→(((v==0)&&(decide (0≤k)))=true)),(((v==0)&&(decide (0≤k)))=true→(((v==0)&&(decide (0≤k)))=true)),(((v==0)&&(decide (0≤k)))=true→((v==0)&&(decide (0≤k)))=true)] ?_ (Zr (Fk (Fr (Rv hcx (congrArg AV.bool (show(((v==0)&&(decide (0≤k)))&&(decide (k≤1099511627776)))=(Fl.q5o n q v k l.length)from(by first|exact Fl.fm0 hk0|exact Fl.fm1 hk (by omega)|exact Fl.fm2 hk (by omega) (by omega)|exact Fl.fm3 hk (by omega)|exact Fl.fm4 hk (by omega)|exact Fl.fm6 (by omega)|exact Fl.fm9 (by omega) (by omega) (by omega) (by omega) (by omega) (by omega)|done))) [] rfl))))
         ·
          refine ap ?_ (ap ?_ (ap (by exact id) (ap ?_ (ap ?_ (ap (by exact id) az)))))<;>
           omega
        ·
         exact Zk (Fb (Ft (Sz hcx [] [4] [65,2] [] (Zr (Rv hcx (congrArg AV.bool (show false=(Fl.q5o n q v k l.length)from(by first|exact Fl.fm0 hk0|exact Fl.fm1 hk (by omega)|exact Fl.fm2 hk (by omega) (by omega)|exact Fl.fm3 hk (by omega)|exact Fl.fm4 hk (by omega)|exact Fl.fm6 (by omega)|exact Fl.fm9 (by omega) (by omega) (by omega) (by omega) (by omega) (by omega)|done))) [] rfl)))))
      ·
       refine Tz hcx [] [59] [] [] (Ft (Zu (a:=q) (b:=5) (fun h7=>?_) fun h7=>?_))
       ·
        exact Sz hcx [] [4] [59,14,2] [] (Zr (Fk (Fr (Rv hcx (congrArg AV.bool (show(v==0)=(Fl.q5o n q v k l.length)from(by first|exact Fl.fm0 hk0|exact Fl.fm1 hk (by omega)|exact Fl.fm2 hk (by omega) (by omega)|exact Fl.fm3 hk (by omega)|exact Fl.fm4 hk (by omega)|exact Fl.fm6 (by omega)|exact Fl.fm9 (by omega) (by omega) (by omega) (by omega) (by omega) (by omega)|done))) [] rfl))))
       ·
        refine Sz hcx [] [65] [59,14] [] (Zu (a:=q) (b:=6) (fun h8=>?_) fun h8=>?_)
        ·
         refine Sq hcx [] [4] [65,2] [] [((v==0)=true→((v==0)=true)),((v==0)=true→((v==0)=true)),((v==0)=true→(v==0)=true),(((v==0)&&(decide (0≤k)))=true→(((v==0)&&(decide (0≤k)))=true)),(((v==0)&&(decide (0≤k)))=true→(((v==0)&&(decide (0≤k)))=true)),(((v==0)&&(decide (0≤k)))=true→((v==0)&&(decide (0≤k)))=true)] ?_ (Zr (Fk (Fr (Rv hcx (congrArg AV.bool (show(((v==0)&&(decide (0≤k)))&&(decide (k≤1099511627776)))=(Fl.q5o n q v k l.length)from(by first|exact Fl.fm0 hk0|exact Fl.fm1 hk (by omega)|exact Fl.fm2 hk (by omega) (by omega)|exact Fl.fm3 hk (by omega)|exact Fl.fm4 hk (by omega)|exact Fl.fm6 (by omega)|exact Fl.fm9 (by omega) (by omega) (by omega) (by omega) (by omega) (by omega)|done))) [] rfl))))
         ·
          refine ap ?_ (ap ?_ (ap (by exact id) (ap ?_ (ap ?_ (ap (by exact id) az)))))<;>
           exact id
        ·
         exact Zk (Fb (Ft (Sz hcx [] [4] [65,2] [] (Zr (Rv hcx (congrArg AV.bool (show false=(Fl.q5o n q v k l.length)from(by first|exact Fl.fm0 hk0|exact Fl.fm1 hk (by omega)|exact Fl.fm2 hk (by omega) (by omega)|exact Fl.fm3 hk (by omega)|exact Fl.fm4 hk (by omega)|exact Fl.fm6 (by omega)|exact Fl.fm9 (by omega) (by omega) (by omega) (by omega) (by omega) (by omega)|done))) [] rfl)))))
 ·
  cases hσ
end Go.Proofs.YteikjpbbhopkaaaGreatDoor.En
namespace Go.Proofs.YteikjpbbhopkaaaGreatDoor.En
open Go Go.RowKit
def k9q:List (Nat×TD):=[(3,⟨1,false,[.int .i64 0],[],none,8,false,1,1⟩),
 (4,⟨1,false,[.bool false],[],none,1,true,0,2⟩),
 (31,⟨1,false,[.slice none 0 0],[],some 34,24,false,0,0⟩),
 (34,⟨1,false,[.slice none 0 0],[],some 3,24,false,0,3⟩),
 (36,⟨2,true,[.int .i64 0,.slice none 0 0],[(0,3),(1,31)],none,32,false,0,6⟩),
 (40,⟨1,false,[.slice none 0 0],[],some 4,24,false,0,0⟩)]
theorem x6o:q5u Tryz.prog k9q:=⟨⟨by kernel_rfl,by kernel_rfl,by kernel_rfl⟩,⟨by kernel_rfl,by kernel_rfl,by kernel_rfl⟩,⟨by kernel_rfl,by kernel_rfl,by kernel_rfl⟩,⟨by kernel_rfl,by kernel_rfl,by kernel_rfl⟩,⟨by kernel_rfl,by kernel_rfl,by kernel_rfl⟩,⟨by kernel_rfl,by kernel_rfl,by kernel_rfl⟩,trivial⟩
def k0s:Cx:=⟨k9q,[(26,(q1j [.agg [.id,.ld (.intss [])],.ld (.bools [])] j4l))],true⟩
theorem x4b:q1c Tryz.prog k0s:=q0s x6o ⟨(y2t.coe [.agg [.id,.ld (.intss [])],.ld (.bools [])] rfl),trivial⟩
def k2p:CtF
 |[.agg [.im (.val (.int .i64 N)),.im (.ls (.intss L))],.im (.ls (.bools a))],[]=>some (a.length≤10∧0≤N∧N≤20∧(a.length:Int)≤N+1∧L.length≤maxLen∧∀l∈L,l.length≤maxLen,.bool (u5z N L a),[])
 |_,_=>none
theorem x2w:q0c Tryz.prog 10 k2p:=by
 refine Sw (cx:=k0s) Tryz.f10 Tryz.func10 ?_
 intro wW wO wβ G0 args os p r outs hσ hp
 have hcx:=x4b
 unfold k2p at hσ
 split at hσ
 ·
  rename_i N L a
  cases hσ
  refine⟨by kernel_rfl,?_⟩
  obtain⟨ha,hN0,hN1,haN,hL,hLm⟩:=hp
  have hD:(z9h N a)=((N+1)-(a.length:Int)).toNat:=rfl
  obtain⟨P9,hP9⟩:∃P9,P9=2^(z9h N a):=⟨_,rfl⟩
  have hpw:(1:Int)*2^((N+1)-(a.length:Int)).toNat=(P9:Int):=by rw[hP9,hD];simp
  have hp2:P9≤2097152:=by rw[hP9];exact Qi3 (by decide) (show(z9h N a)≤21 by omega)
  refine Sz hcx [(1000,.frz)] [2] [0] [] (Zs (Sq hcx [] [14,15] [] [] [Fit (N+1),Fit ((N+1)-(a.length:Int)),((0:Int)≤((N+1)-(a.length:Int))∧((N+1)-(a.length:Int))≤64∧Fit (1*2^((N+1)-(a.length:Int)).toNat))] ?_ (Zb (Lp (X:=Nat) (fun x0=>∀j,j<x0→Cn.j2s N L (z8g a (j:Int) (z9h N a))=false) (fun x0=>([(1,.bools a),(2,.pto [.int N,.ls (.intss L)]),(14,.int (1*2^((N+1)-(a.length:Int)).toNat)),(15,.int (x0:Int))],[])) (fun x0=>P9-x0) (0) ?_ (Ex 15 (congrArg AV.int (show 0=(0:Int)from(by first|rfl|omega|(simp;done)))) Eb) Hb fun m hI=>?_))))
  ·
   refine ap ?_ (ap ?_ (ap ?_ az))<;>
    omega
  ·
   exact fun j hj=>by omega
  ·
   try dsimp only at hI
   have hok:=hI
   refine Sz hcx [] [16] [] [] (Zs (Zj (p:=((m:Int)<(1*2^((N+1)-(a.length:Int)).toNat))) (fun h0=>?_) fun h0=>?_))
   ·
    refine Zk (Ft (Zs (Zb (Sz hcx [] [5] [16] [] (Sq hcx [(1001,.to 219)] [6] [] [] [(a.length*1≤140737488355328)] ?_ (Zs (Sq hcx [] [25,26] [] [] [Fit (N+1),Fit ((N+1)-(a.length:Int))] ?_ (Zb (Zn [(219,.to 700)] [1,2,5,6,14,15,25,26] (Lp (X:=Nat) (fun x0=>x0≤(z9h N a)) (fun x0=>([(1,.bools a),(2,.pto [.int N,.ls (.intss L)]),(5,.int (m:Int)),(6,.row 700),(14,.int (1*2^((N+1)-(a.length:Int)).toNat)),(15,.int (m:Int)),(25,.int ((N+1)-(a.length:Int))),(26,.int (x0:Int))],[(700,.row 4 (.bools (z8g a (m:Int) x0)))])) (fun x0=>(z9h N a)-x0) (0) ?_ (Ex 26 (congrArg AV.int (show 0=(0:Int)from(by first|rfl|omega|(simp;done)))) Eb) (Hx 700 (congrArg (fun x=>q0d.row 4 (.bools x)) (show a=(z8g a (m:Int) 0)from(by first|rfl|exact u9g|(simp[z8g];done)))) Hb) fun i hI=>?_))))))))))
    ·
     refine ap ?_ az
     omega
    ·
     refine ap ?_ (ap ?_ az)<;>
      omega
    ·
     show 0≤(z9h N a)
     omega
    ·
     replace hI:i≤(z9h N a):=hI
     have hel:=x0e (a:=a) (m:=(m:Int)) (k:=i)
     refine Sz hcx [] [27] [] [] (Zs (Zj (p:=((i:Int)<((N+1)-(a.length:Int)))) (fun h1=>?_) fun h1=>?_))
     ·
      refine Zk (Ft (Zs (Zb (Sz hcx [] [7] [27] [] (Tq hcx [(1007,.to 700)] [6] [7] [700] [((0:Int)≤(i:Int)∧(i:Int)≤64),(((z8g a (m:Int) i).length+[((x6y ((m:Int)/2^i) 1)==1)].length)*1≤140737488355328)] ?_ (Fb (Ft (Tq hcx [] [26] [] [] [Fit ((i:Int)+1)] ?_ (Lr (i+1) ?_ ?_ (Ex 26 (congrArg AV.int (show((i:Int)+1)=((i+1):Int)from(by first|rfl|omega|(simp;done)))) Eb) (Hx 700 (congrArg (fun x=>q0d.row 4 (.bools x)) (show((z8g a (m:Int) i)++[((x6y ((m:Int)/2^i) 1)==1)])=(z8g a (m:Int) (i+1))from(by exact x8n))) Hb))))))))))
      ·
       refine ap ?_ (ap ?_ az)<;>
        first|omega|(simp only[Qa8,Qb5,Qa3,Qa9,Qb6,Qb1];omega)
      ·
       refine ap ?_ az
       omega
      ·
       show(i+1)≤(z9h N a)
       omega
      ·
       show(z9h N a)-(i+1)<(z9h N a)-i
       omega
     ·
      have hid:i=z9h N a:=by omega
      refine Ze (Fe (Fe (Fs (Ft (Zs (Zn [(700,.frz)] [27,1,2,5,6,14,15,25,26] (Tq hcx [] [40] [27,5,6,25,26] [] [(L.length≤maxLen∧(∀l∈L,l.length≤maxLen)∧(z8g a (m:Int) i).length≤maxLen)] ?_ (Ft (Zi (b:=Cn.j2s N L (z8g a (m:Int) i)) (fun h2=>?_) fun h2=>?_)))))))))
      ·
       refine ap ?_ az
       exact⟨hL,hLm,by unfold maxLen;omega⟩
      ·
       have hq:=h2
       exact Sz hcx [] [4] [40,1,2,14,15] [] (Zr (Fk (Fr (Fr (Fk (Fr (Rv hcx (congrArg AV.bool (show true=(u5z N L a)from(by exact u5j (by omega) hid hq))) [] rfl)))))))
      ·
       have hq:=h2
       refine Zk (Fb (Ft (Tq hcx [] [15] [40] [] [Fit ((m:Int)+1)] ?_ (Lr (m+1) ?_ ?_ (Ex 15 (congrArg AV.int (show((m:Int)+1)=((m+1):Int)from(by first|rfl|omega|(simp;done)))) Eb) Hb))))
       ·
        refine ap ?_ az
        omega
       ·
        exact fun j hj=>by rcases(by omega:j<m∨j=m)with h|rfl;exact hok j h;rw[←hid];exact hq
       ·
        show P9-(m+1)<P9-m
        omega
   ·
    exact Ze (Fe (Fe (Fs (Ft (Sz hcx [] [4] [16,1,2,14,15] [] (Zr (Rv hcx (congrArg AV.bool (show false=(u5z N L a)from(by exact u9j (by omega) hok))) [] rfl)))))))
 ·
  cases hσ
end Go.Proofs.YteikjpbbhopkaaaGreatDoor.En
