/- Lemmas and contracts for the row. -/
import Derived.Test.YteikjpbbhopkaaaGreatDoorPkRowElimGatesAB
import Derived.Test.YteikjpbbhopkaaaGreatDoorPkRowElimGatesQ
import Derived.Test.YteikjpbbhopkaaaGreatDoorProg
set_option linter.unusedVariables false
set_option linter.unusedSimpArgs false
set_option linter.unnecessarySimpa false
namespace Go.Proofs.YteikjpbbhopkaaaGreatDoor.En
open Go Go.RowKit
def j7x:List (Nat×TD):=[(3,⟨1,false,[.int .i64 0],[],none,8,false,1,1⟩),
 (4,⟨1,false,[.bool false],[],none,1,true,0,2⟩),
 (31,⟨1,false,[.slice none 0 0],[],some 34,24,false,0,0⟩),
 (34,⟨1,false,[.slice none 0 0],[],some 3,24,false,0,3⟩),
 (36,⟨2,true,[.int .i64 0,.slice none 0 0],[(0,3),(1,31)],none,32,false,0,6⟩),
 (40,⟨1,false,[.slice none 0 0],[],some 4,24,false,0,0⟩)]
theorem z1t:q5u Tryz.prog j7x:=⟨⟨by kernel_rfl,by kernel_rfl,by kernel_rfl⟩,⟨by kernel_rfl,by kernel_rfl,by kernel_rfl⟩,⟨by kernel_rfl,by kernel_rfl,by kernel_rfl⟩,⟨by kernel_rfl,by kernel_rfl,by kernel_rfl⟩,⟨by kernel_rfl,by kernel_rfl,by kernel_rfl⟩,⟨by kernel_rfl,by kernel_rfl,by kernel_rfl⟩,trivial⟩
def y8w:Cx:=⟨j7x,[],false⟩
theorem y7b:q1c Tryz.prog y8w:=q0s z1t trivial
def y4k:CtF
 |[.im (.ls (.ints a)),.im (.ls (.ints b))],[]=>some (a.length≤maxLen,.bool (decide (a=b)),[])
 |_,_=>none
theorem y5y:q0c Tryz.prog 60 y4k:=by
 refine Sw (cx:=y8w) Tryz.f60 Tryz.func60 ?_
 intro wW wO wβ G0 args os p r outs hσ hp
 have hcx:=y7b
 have hmx:Tryz.prog.follows .mixedOrders=true:=by kernel_rfl
 unfold y4k at hσ
 split at hσ
 ·
  rename_i a b
  cases hσ
  refine⟨by kernel_rfl,?_⟩
  unfold maxLen at hp
  refine Sz hcx [] [] [] [] (Zs (Sz hcx [] [10] [] [] (Zi (b:=(a.length:Int) !=(b.length:Int)) (fun h0=>?_) fun h0=>?_)))
  ·
   replace h0:=bne_iff_ne.1 h0
   exact Sz hcx [] [4] [10,0,1] [] (Zr (Fr (Rv hcx (congrArg AV.bool (show false=(decide (a=b))from(by exact(Cn.k3y (by omega)).symm))) [] rfl)))
  ·
   replace h0:=u6l h0
   refine Zk (Ft (Zs (Sz hcx [] [5] [10] [] (Zb (Lp (X:=Nat) (fun x0=>x0≤a.length∧∀j,j<x0→a.getD j 0=b.getD j 0) (fun x0=>([(0,.ints a),(1,.ints b),(5,.int (x0:Int))],[])) (fun x0=>a.length-x0) (0) ?_ (Ex 5 (congrArg AV.int (show 0=(0:Int)from(by first|rfl|omega|(simp;done)))) Eb) Hb fun k hI=>?_)))))
   ·
    exact⟨Qc1 _,fun j hj=>by omega⟩
   ·
    try dsimp only at hI
    obtain⟨hk,hok⟩:=hI
    refine Zs (Sz hcx [] [14] [] [] (Zj (p:=((k:Int)<(a.length:Int))) (fun h1=>?_) fun h1=>?_))
    ·
     refine Zk (Ft (Zs (Zb (Sd hcx hmx [0,0,3,7,0,0,48,112,255] [] [25] [14] [] [((0:Int)≤(k:Int)∧(k:Int)<(a.length:Int)),((0:Int)≤(k:Int)∧(k:Int)<(b.length:Int))] (ap (by omega) (ap (by omega) az)) (Zi (b:=(a.getD k 0) !=(b.getD k 0)) (fun h2=>?_) fun h2=>?_)))))
     ·
      replace h2:=bne_iff_ne.1 h2
      have hq:=h2
      exact Sz hcx [] [4] [25,0,1,5] [] (Zr (Fk (Fr (Fr (Fk (Fr (Rv hcx (congrArg AV.bool (show false=(decide (a=b))from(by exact(Cn.u2t hq).symm))) [] rfl)))))))
     ·
      replace h2:=u6l h2
      have hq:=h2
      refine Zk (Fb (Ft (Tq hcx [] [5] [25] [] [Fit ((k:Int)+1)] (ap (by omega) az) (Lr (k+1) ?_ ?_ (Ex 5 (congrArg AV.int (show((k:Int)+1)=((k+1):Int)from(by first|rfl|omega|(simp;done)))) Eb) Hb))))
      ·
       exact⟨by omega,Cn.k1l (P:=fun j=>a.getD j 0=b.getD j 0) hok (by first|exact hq|omega)⟩
      ·
       show a.length-(k+1)<a.length-k
       omega
    ·
     exact Ze (Fe (Fe (Fs (Ft (Sz hcx [] [4] [14,0,1,5] [] (Zr (Rv hcx (congrArg AV.bool (show true=(decide (a=b))from(by exact(Cn.u5u (d:=0) (by omega) (fun j hj=>hok j (by omega))).symm))) [] rfl)))))))
 ·
  cases hσ
def y2j:Cx:=⟨j7x,[(60,(q1j [.ld (.ints []),.ld (.ints [])] y4k))],false⟩
theorem j9f:q1c Tryz.prog y2j:=q0s z1t ⟨(y5y.coe [.ld (.ints []),.ld (.ints [])] rfl),trivial⟩
def j3o:CtF
 |[.im (.ls (.intss a)),.im (.ls (.intss b))],[]=>some (a.length≤maxLen∧∀l∈a,l.length≤maxLen,.bool (decide (a=b)),[])
 |_,_=>none
theorem j8n:q0c Tryz.prog 34 j3o:=by
 refine Sw (cx:=y2j) Tryz.f34 Tryz.func34 ?_
 intro wW wO wβ G0 args os p r outs hσ hp
 have hcx:=j9f
 have hmx:Tryz.prog.follows .mixedOrders=true:=by kernel_rfl
 unfold j3o at hσ
 split at hσ
 ·
  rename_i a b
  cases hσ
  refine⟨by kernel_rfl,?_⟩
  obtain⟨hm1,hm2⟩:=hp
  unfold maxLen at hm1
  refine Sz hcx [] [] [] [] (Zs (Sz hcx [] [10] [] [] (Zi (b:=(a.length:Int) !=(b.length:Int)) (fun h0=>?_) fun h0=>?_)))
  ·
   replace h0:=bne_iff_ne.1 h0
   exact Sz hcx [] [4] [10,0,1] [] (Zr (Fr (Rv hcx (congrArg AV.bool (show false=(decide (a=b))from(by exact(Cn.k3y (by omega)).symm))) [] rfl)))
  ·
   replace h0:=u6l h0
   refine Zk (Ft (Zs (Sz hcx [] [5] [10] [] (Zb (Lp (X:=Nat) (fun x0=>x0≤a.length∧∀j,j<x0→a.getD j []=b.getD j []) (fun x0=>([(0,.intss a),(1,.intss b),(5,.int (x0:Int))],[])) (fun x0=>a.length-x0) (0) ?_ (Ex 5 (congrArg AV.int (show 0=(0:Int)from(by first|rfl|omega|(simp;done)))) Eb) Hb fun k hI=>?_)))))
   ·
    exact⟨Qc1 _,fun j hj=>by omega⟩
   ·
    try dsimp only at hI
    obtain⟨hk,hok⟩:=hI
    refine Zs (Sz hcx [] [14] [] [] (Zj (p:=((k:Int)<(a.length:Int))) (fun h1=>?_) fun h1=>?_))
    ·
     refine Zk (Ft (Zs (Zb (Sd hcx hmx [0,0,3,7,0,0,48,112,255,511] [] [26] [14] [] [((0:Int)≤(k:Int)∧(k:Int)<(a.length:Int)),((0:Int)≤(k:Int)∧(k:Int)<(b.length:Int)),((a.getD k []).length≤maxLen)] ?_ (Zi (b:= !(decide ((a.getD k [])=(b.getD k [])))) (fun h2=>?_) fun h2=>?_)))))
     ·
      refine ap ?_ (ap ?_ (ap ?_ az))<;>
       first|omega|exact hm2 _ (Cn.q0t (by omega))
     ·
      replace h2:=of_decide_eq_false (u1m h2)
      have hq:¬(a.getD k []=b.getD k []):=by simpa using h2
      exact Sz hcx [] [4] [26,0,1,5] [] (Zr (Fk (Fr (Fr (Fk (Fr (Rv hcx (congrArg AV.bool (show false=(decide (a=b))from(by exact(Cn.u2t hq).symm))) [] rfl)))))))
     ·
      replace h2:=of_decide_eq_true (k1y h2)
      have hq:a.getD k []=b.getD k []:=by simpa using h2
      refine Zk (Fb (Ft (Tq hcx [] [5] [26] [] [Fit ((k:Int)+1)] ?_ (Lr (k+1) ?_ ?_ (Ex 5 (congrArg AV.int (show((k:Int)+1)=((k+1):Int)from(by first|rfl|omega|(simp;done)))) Eb) Hb))))
      ·
       refine ap ?_ az
       omega
      ·
       exact⟨by omega,Cn.k1l (P:=fun j=>a.getD j []=b.getD j []) hok (by first|exact hq|omega)⟩
      ·
       show a.length-(k+1)<a.length-k
       omega
    ·
     exact Ze (Fe (Fe (Fs (Ft (Sz hcx [] [4] [14,0,1,5] [] (Zr (Rv hcx (congrArg AV.bool (show true=(decide (a=b))from(by exact(Cn.u5u (d:=[]) (by omega) (fun j hj=>hok j (by omega))).symm))) [] rfl)))))))
 ·
  cases hσ
def y8i:Cx:=⟨j7x,[(34,(q1j [.ld (.intss []),.ld (.intss [])] j3o))],false⟩
theorem y3j:q1c Tryz.prog y8i:=q0s z1t ⟨(j8n.coe [.ld (.intss []),.ld (.intss [])] rfl),trivial⟩
def y3p:CtF
 |[.agg [.im (.val (.int .i64 N)),.im (.ls (.intss L))],.agg [.im (.val (.int .i64 N')),.im (.ls (.intss L'))]],[]=>some (L.length≤maxLen∧∀l∈L,l.length≤maxLen,.bool ((N==N')&&decide (L=L')),[])
 |_,_=>none
theorem y4t:q0c Tryz.prog 14 y3p:=by
 refine Sw (cx:=y8i) Tryz.f14 Tryz.func14 ?_
 intro wW wO wβ G0 args os p r outs hσ hp
 have hcx:=y3j
 unfold y3p at hσ
 split at hσ
 ·
  rename_i N L N' L'
  cases hσ
  refine⟨by kernel_rfl,?_⟩
  refine Sz hcx [(1000,.frz),(1001,.frz)] [2,3] [0,1] [] (Sq hcx [] [4] [2,3] [] [((N==N')=true→((N==N')=true)),((N==N')=true→((N==N')=true)),((N==N')=true→((N==N')=true)),((N==N')=true→((N==N')=true)),((N==N')=true→(L.length≤maxLen∧∀l∈L,l.length≤maxLen)),((N==N')=true→(N==N')=true)] ?_ (Zr (Ru hcx [])))
  ·
   refine ap ?_ (ap ?_ (ap ?_ (ap ?_ (ap ?_ (ap (by exact id) az)))))<;>
    first|exact(fun _=>hp)|(intro h;exact h)
 ·
  cases hσ
def j8g:Cx:=⟨j7x,[],false⟩
theorem y2z:q1c Tryz.prog j8g:=q0s z1t trivial
def j5d:CtF
 |[.im (.ls (.bools a)),.im (.ls (.bools b))],[]=>some (a.length≤maxLen,.bool (decide (a=b)),[])
 |_,_=>none
theorem j8l:q0c Tryz.prog 15 j5d:=by
 refine Sw (cx:=j8g) Tryz.f15 Tryz.func15 ?_
 intro wW wO wβ G0 args os p r outs hσ hp
 have hcx:=y2z
 have hmx:Tryz.prog.follows .mixedOrders=true:=by kernel_rfl
 unfold j5d at hσ
 split at hσ
 ·
  rename_i a b
  cases hσ
  refine⟨by kernel_rfl,?_⟩
  unfold maxLen at hp
  refine Sz hcx [] [] [] [] (Zs (Sz hcx [] [10] [] [] (Zi (b:=(a.length:Int) !=(b.length:Int)) (fun h0=>?_) fun h0=>?_)))
  ·
   replace h0:=bne_iff_ne.1 h0
   exact Sz hcx [] [4] [10,0,1] [] (Zr (Fr (Rv hcx (congrArg AV.bool (show false=(decide (a=b))from(by exact(Cn.k3y (by omega)).symm))) [] rfl)))
  ·
   replace h0:=u6l h0
   refine Zk (Ft (Zs (Sz hcx [] [12,13] [10] [] (Zb (Lp (X:=Nat) (fun x0=>x0≤a.length∧∀j,j<x0→a.getD j false=b.getD j false) (fun x0=>([(0,.bools a),(1,.bools b),(12,.int (a.length:Int)),(13,.int (x0:Int))],[])) (fun x0=>a.length-x0) (0) ?_ (Ex 13 (congrArg AV.int (show 0=(0:Int)from(by first|rfl|omega|(simp;done)))) Eb) Hb fun k hI=>?_)))))
   ·
    exact⟨Qc1 _,fun j hj=>by omega⟩
   ·
    try dsimp only at hI
    obtain⟨hk,hok⟩:=hI
    refine Sz hcx [] [14] [] [] (Zs (Zj (p:=((k:Int)<(a.length:Int))) (fun h1=>?_) fun h1=>?_))
    ·
     refine Zk (Ft (Zs (Zb (Sz hcx [] [5] [14] [] (Sd hcx hmx [0,0,3,7,0,0,48,112,255] [] [24] [5] [] [((0:Int)≤(k:Int)∧(k:Int)<(a.length:Int)),((0:Int)≤(k:Int)∧(k:Int)<(b.length:Int))] (ap (by omega) (ap (by omega) az)) (Zi (b:= !((a.getD k false)==(b.getD k false))) (fun h2=>?_) fun h2=>?_))))))
     ·
      have hq:a.getD k false≠b.getD k false:=by simpa using h2
      exact Sz hcx [] [4] [24,0,1,12,13] [] (Zr (Fk (Fr (Fr (Fk (Fr (Rv hcx (congrArg AV.bool (show false=(decide (a=b))from(by exact(Cn.u2t hq).symm))) [] rfl)))))))
     ·
      have hq:a.getD k false=b.getD k false:=by simpa using h2
      refine Zk (Fb (Ft (Tq hcx [] [13] [24] [] [Fit ((k:Int)+1)] (ap (by omega) az) (Lr (k+1) ?_ ?_ (Ex 13 (congrArg AV.int (show((k:Int)+1)=((k+1):Int)from(by first|rfl|omega|(simp;done)))) Eb) Hb))))
      ·
       exact⟨by omega,Cn.k1l (P:=fun j=>a.getD j false=b.getD j false) hok hq⟩
      ·
       show a.length-(k+1)<a.length-k
       omega
    ·
     exact Ze (Fe (Fe (Fs (Ft (Sz hcx [] [4] [14,0,1,12,13] [] (Zr (Rv hcx (congrArg AV.bool (show true=(decide (a=b))from(by exact(Cn.u5u (d:=false) (by omega) (fun j hj=>hok j (by omega))).symm))) [] rfl)))))))
 ·
  cases hσ
end Go.Proofs.YteikjpbbhopkaaaGreatDoor.En
