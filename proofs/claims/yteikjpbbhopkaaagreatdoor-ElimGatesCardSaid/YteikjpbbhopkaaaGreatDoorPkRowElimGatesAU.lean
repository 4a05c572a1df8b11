/- Lemmas and contracts for the row. -/
import Derived.Test.YteikjpbbhopkaaaGreatDoorPkRowElimGatesAN
import Derived.Test.YteikjpbbhopkaaaGreatDoorPkRowElimGatesAS
import Derived.Test.YteikjpbbhopkaaaGreatDoorPkRowElimGatesAT
set_option linter.unusedVariables false
set_option linter.unusedSimpArgs false
set_option linter.unnecessarySimpa false
namespace Go.Proofs.YteikjpbbhopkaaaGreatDoor.En
open Go Go.RowKit
def k9w:List (Nat×TD):=[(3,⟨1,false,[.int .i64 0],[],none,8,false,1,1⟩),
 (4,⟨1,false,[.bool false],[],none,1,true,0,2⟩),
 (22,⟨1,false,[.slice none 0 0],[],some 24,24,false,0,0⟩),
 (24,⟨4,true,[.int .i64 0,.int .i64 0,.int .i64 0,.slice none 0 0],[(0,3),(1,3),(2,3),(3,22)],none,48,false,0,4⟩),
 (27,⟨1,false,[.slice none 0 0],[],some 57,24,false,0,0⟩),
 (28,⟨1,false,[.int .i64 0],[],none,8,false,1,1⟩),
 (31,⟨1,false,[.slice none 0 0],[],some 34,24,false,0,0⟩),
 (34,⟨1,false,[.slice none 0 0],[],some 3,24,false,0,3⟩),
 (36,⟨2,true,[.int .i64 0,.slice none 0 0],[(0,3),(1,31)],none,32,false,0,6⟩),
 (40,⟨1,false,[.slice none 0 0],[],some 4,24,false,0,0⟩),
 (57,⟨3,true,[.slice none 0 0,.slice none 0 0,.int .i64 0],[(0,34),(1,34),(2,3)],none,56,false,0,5⟩)]
theorem k0i:q5u Tryz.prog k9w:=⟨⟨by kernel_rfl,by kernel_rfl,by kernel_rfl⟩,⟨by kernel_rfl,by kernel_rfl,by kernel_rfl⟩,⟨by kernel_rfl,by kernel_rfl,by kernel_rfl⟩,⟨by kernel_rfl,by kernel_rfl,by kernel_rfl⟩,⟨by kernel_rfl,by kernel_rfl,by kernel_rfl⟩,⟨by kernel_rfl,by kernel_rfl,by kernel_rfl⟩,⟨by kernel_rfl,by kernel_rfl,by kernel_rfl⟩,⟨by kernel_rfl,by kernel_rfl,by kernel_rfl⟩,⟨by kernel_rfl,by kernel_rfl,by kernel_rfl⟩,⟨by kernel_rfl,by kernel_rfl,by kernel_rfl⟩,⟨by kernel_rfl,by kernel_rfl,by kernel_rfl⟩,trivial⟩
def z2v:Cx:=⟨k9w,[(4,j7k),(5,(q1j [.agg [.id,.id,.id,.ld (.trees [])]] y4v)),(6,(q1j [.agg [.id,.id,.id,.ld (.trees [])],.id] j7j)),(7,(q1j [.ld (.lins []),.id] k3o)),(8,(q1j [.agg [.id,.ld (.intss [])],.ld (.ints []),.id] y7a)),(9,v1o),(10,(q1j [.agg [.id,.ld (.intss [])],.ld (.bools [])] k2p)),(11,(q1j [.agg [.id,.id,.id,.ld (.trees [])],.ld (.bools [])] k2k))],true⟩
theorem z5n:q1c Tryz.prog z2v:=q0s k0i ⟨y0f,(y6t.coe [.agg [.id,.id,.id,.ld (.trees [])]] rfl),(y2r.coe [.agg [.id,.id,.id,.ld (.trees [])],.id] rfl),(x3b.coe [.ld (.lins []),.id] rfl),(y6x.coe [.agg [.id,.ld (.intss [])],.ld (.ints []),.id] rfl),x5a,(x2w.coe [.agg [.id,.ld (.intss [])],.ld (.bools [])] rfl),(x4f.coe [.agg [.id,.id,.id,.ld (.trees [])],.ld (.bools [])] rfl),trivial⟩
def z4h:CtF
 |[.agg [.im (.val (.int .i64 q)),.im (.val (.int .i64 v)),.im (.val (.int .i64 k)),.im (.ls (.trees l))],.im (.val (.int .i64 n)),.im (.val (.int .i64 grow))],[]=>some (l.length≤2932031007317∧Fl.q2b l∧Fit n∧Fit grow,.bool true,[])
 |_,_=>none
theorem z5h:q0c Tryz.prog 3 z4h:=by
 refine Sw (cx:=z2v) Tryz.f3 Tryz.func3 ?_
 intro wW wO wβ G0 args os p r outs hσ hp
 have hcx:=z5n
 have hmx:Tryz.prog.follows .mixedOrders=true:=by kernel_rfl
 unfold z4h at hσ
 split at hσ
 ·
  rename_i q v k l n grow
  cases hσ
  refine⟨by kernel_rfl,?_⟩
  obtain⟨hm1,hm2,hfn,hfg⟩:=hp
  refine Sz hcx [(1000,.frz)] [3] [0] [] (Zs (Sq hcx [] [23] [] [] [(True)] ?_ (Zi (b:= !true) (fun h0=>?_) fun h0=>?_)))
  ·
   refine ap ?_ az
   exact True.intro
  ·
   cases h0
  ·
   replace h0:=(k1y h0)
   refine Zk (Ft (Zs (Sq hcx [] [42] [23] [] [((!(decide (n<0)))=true→((!(decide (n<0)))=true)),((decide (n<0))=false→(!(decide (n<0)))=true),((!((decide (n<0))||(decide (n>4))))=true→((!((decide (n<0))||(decide (n>4))))=true)),((!((decide (n<0))||(decide (n>4))))=true→(l.length≤2932031007317∧Fl.q2b l)),((!((decide (n<0))||(decide (n>4))))=true→((!((decide (n<0))||(decide (n>4))))=true)),(((decide (n<0))||(decide (n>4)))=false→(!((decide (n<0))||(decide (n>4))))=true),((!(((decide (n<0))||(decide (n>4)))||(decide ((Gt.sizW (.node q v k l))>12))))=true→((!(((decide (n<0))||(decide (n>4)))||(decide ((Gt.sizW (.node q v k l))>12))))=true)),((((decide (n<0))||(decide (n>4)))||(decide ((Gt.sizW (.node q v k l))>12)))=false→(!(((decide (n<0))||(decide (n>4)))||(decide ((Gt.sizW (.node q v k l))>12))))=true),((!((((decide (n<0))||(decide (n>4)))||(decide ((Gt.sizW (.node q v k l))>12)))||(decide (grow<0))))=true→((!((((decide (n<0))||(decide (n>4)))||(decide ((Gt.sizW (.node q v k l))>12)))||(decide (grow<0))))=true)),(((((decide (n<0))||(decide (n>4)))||(decide ((Gt.sizW (.node q v k l))>12)))||(decide (grow<0)))=false→(!((((decide (n<0))||(decide (n>4)))||(decide ((Gt.sizW (.node q v k l))>12)))||(decide (grow<0))))=true)] ?_ (Zi (b:=((((decide (n<0))||(decide (n>4)))||(decide ((Gt.sizW (.node q v k l))>12)))||(decide (grow<0)))||(decide (grow>20))) (fun h1=>?_) fun h1=>?_))))
   ·
    refine ap ?_ (ap (by exact q2j) (ap ?_ (ap ?_ (ap ?_ (ap (by exact q2j) (ap ?_ (ap (by exact q2j) (ap ?_ (ap (by exact q2j) az)))))))))<;>
     first|exact id|exact(fun _=>⟨hm1,hm2⟩)
   ·
    skip
    exact Sz hcx [] [6] [42,3,1,2] [] (Zr (Fr (Ru hcx [])))
   ·
    obtain⟨hn0,hn4,hg0,hg1⟩:=Gt.gl_guard h1
    refine Zk (Ft (Sq hcx [] [7,8,9,10] [42] [] [Fit (n+1),(l.length≤2932031007317∧Fl.q2b l)] ?_ (Zs (Sz hcx [] [53] [10] [] (Zi (b:=((Gt.gatesR (n+1) (.node q v k l)).2.2.2) !=0) (fun h2=>?_) fun h2=>?_)))))
    ·
     refine ap ?_ (ap ?_ az)<;>
      first|omega|exact⟨hm1,hm2⟩
    ·
     have h53:(Gt.gatesR (n+1) (.node q v k l)).2.2.2≠0:=by have h9:=h2;simpa using h9
     have hr:=Gt.gl_err1 h53
     exact Sz hcx [] [6] [53,7,8,9,3,1,2] [] (Zr (Fr (Rv hcx (congrArg AV.bool (show(((Gt.gatesR (n+1) (.node q v k l)).1)==0)=true from(by first|rfl|(rw[hr];rfl)|done))) [] rfl)))
    ·
     have h53:(Gt.gatesR (n+1) (.node q v k l)).2.2.2=0:=by have h9:=h2;simpa using h9
     have hnt:=Gt.gl_nt h53
     refine Zk (Ft (Sq hcx [] [11,12,13] [53,8,9] [] [(((Gt.gatesR (n+1) (.node q v k l)).2.1).length≤200000∧Fit ((Gt.gatesR (n+1) (.node q v k l)).2.2.1)∧Cn.k4e ((Gt.gatesR (n+1) (.node q v k l)).2.1))] ?_ (Zs (Sz hcx [] [64] [13] [] (Zi (b:=((Cn.q1q ((Gt.gatesR (n+1) (.node q v k l)).2.1) ((Gt.gatesR (n+1) (.node q v k l)).2.2.1)).2.2) !=0) (fun h3=>?_) fun h3=>?_)))))
     ·
      refine ap ?_ az
      omega
     ·
      have h64:(Cn.q1q (Gt.gatesR (n+1) (.node q v k l)).2.1 (Gt.gatesR (n+1) (.node q v k l)).2.2.1).2.2≠0:=by have h9:=h3;simpa using h9
      have hr:=Gt.gl_err2 h64
      exact Sz hcx [] [6] [64,11,12,7,3,1,2] [] (Zr (Fr (Rv hcx (congrArg AV.bool (show((((Cn.q1q ((Gt.gatesR (n+1) (.node q v k l)).2.1) ((Gt.gatesR (n+1) (.node q v k l)).2.2.1)).1).length:Int)==0)=true from(by first|rfl|(rw[hr];rfl)|done))) [] rfl)))
     ·
      have h64:(Cn.q1q (Gt.gatesR (n+1) (.node q v k l)).2.1 (Gt.gatesR (n+1) (.node q v k l)).2.2.1).2.2=0:=by have h9:=h3;simpa using h9
      refine Zk (Ft (Zs (Sq hcx [] [74] [64] [] [((!(decide ((Cn.q1q ((Gt.gatesR (n+1) (.node q v k l)).2.1) ((Gt.gatesR (n+1) (.node q v k l)).2.2.1)).2.1>13)))=true→((!(decide ((Cn.q1q ((Gt.gatesR (n+1) (.node q v k l)).2.1) ((Gt.gatesR (n+1) (.node q v k l)).2.2.1)).2.1>13)))=true)),((!(decide ((Cn.q1q ((Gt.gatesR (n+1) (.node q v k l)).2.1) ((Gt.gatesR (n+1) (.node q v k l)).2.2.1)).2.1>13)))=true→((!(decide ((Cn.q1q ((Gt.gatesR (n+1) (.node q v k l)).2.1) ((Gt.gatesR (n+1) (.node q v k l)).2.2.1)).2.1>13)))=true)),((decide ((Cn.q1q ((Gt.gatesR (n+1) (.node q v k l)).2.1) ((Gt.gatesR (n+1) (.node q v k l)).2.2.1)).2.1>13))=false→(!(decide ((Cn.q1q ((Gt.gatesR (n+1) (.node q v k l)).2.1) ((Gt.gatesR (n+1) (.node q v k l)).2.2.1)).2.1>13)))=true)] ?_ (Zi (b:=(decide ((Cn.q1q ((Gt.gatesR (n+1) (.node q v k l)).2.1) ((Gt.gatesR (n+1) (.node q v k l)).2.2.1)).2.1>13))||(decide ((((Cn.q1q ((Gt.gatesR (n+1) (.node q v k l)).2.1) ((Gt.gatesR (n+1) (.node q v k l)).2.2.1)).1).length:Int)>60))) (fun h4=>?_) fun h4=>?_))))
      ·
       refine ap ?_ (ap ?_ (ap (by exact q2j) az))<;>
        exact id
      ·
       skip
       exact Sz hcx [] [6] [74,11,12,7,3,1,2] [] (Zr (Fr (Ru hcx [])))
      ·
       obtain⟨h13,h60⟩:=Gt.gl_sm h4
       obtain⟨k1,k2,k3,k4⟩:(n+1≤(Cn.q1q (Gt.gatesR (n+1) (.node q v k l)).2.1 (Gt.gatesR (n+1) (.node q v k l)).2.2.1).2.1)∧((Cn.q1q (Gt.gatesR (n+1) (.node q v k l)).2.1 (Gt.gatesR (n+1) (.node q v k l)).2.2.1).1++[[(Gt.gatesR (n+1) (.node q v k l)).1]]).length≤61∧(∀c∈((Cn.q1q (Gt.gatesR (n+1) (.node q v k l)).2.1 (Gt.gatesR (n+1) (.node q v k l)).2.2.1).1++[[(Gt.gatesR (n+1) (.node q v k l)).1]]),c.length≤100)∧Cn.q3x ((Cn.q1q (Gt.gatesR (n+1) (.node q v k l)).2.1 (Gt.gatesR (n+1) (.node q v k l)).2.2.1).2.1-1) ((Cn.q1q (Gt.gatesR (n+1) (.node q v k l)).2.1 (Gt.gatesR (n+1) (.node q v k l)).2.2.1).1++[[(Gt.gatesR (n+1) (.node q v k l)).1]])=0:=Gt.gl_ok ⟨hn0,hn4⟩ h53 h64 h13 h60
       refine Zk (Ft (Sz hcx [] [14] [74] [] (Zs (Sz hcx [] [15] [] [] (Zb (Zw 14 700 3 (.ints []) (Lp (X:=Nat) (fun x0=>x0≤n.toNat) (fun x0=>([(1,.int n),(2,.int grow),(3,.pto [.int q,.int v,.int k,.ls (.trees l)]),(7,.int ((Gt.gatesR (n+1) (.node q v k l)).1)),(11,.intss ((Cn.q1q ((Gt.gatesR (n+1) (.node q v k l)).2.1) ((Gt.gatesR (n+1) (.node q v k l)).2.2.1)).1)),(12,.int ((Cn.q1q ((Gt.gatesR (n+1) (.node q v k l)).2.1) ((Gt.gatesR (n+1) (.node q v k l)).2.2.1)).2.1)),(14,.row 700),(15,.int ((x0:Int)+1))],[(700,.row 3 (.ints (Gt.frL x0)))])) (fun x0=>n.toNat-x0) (0) ?_ Eb Hb fun j hI=>?_)))))))
       ·
        show 0≤n.toNat
        omega
       ·
        replace hI:j≤n.toNat:=hI
        have hfl:=Gt.fr_len (j:=j)
        refine Zs (Sz hcx [] [77] [] [] (Zj (p:=(((j:Int)+1)≤n)) (fun h5=>?_) fun h5=>?_))
        ·
         refine Zk (Ft (Zs (Zb (Tq hcx [(1003,.to 700)] [14] [77] [700] [(((Gt.frL j).length+[((j:Int)+1)].length)*8≤140737488355328)] ?_ (Fb (Ft (Tq hcx [] [15] [] [] [Fit (((j:Int)+1)+1)] ?_ (Lr (j+1) ?_ ?_ (Ex 15 (congrArg AV.int (show(((j:Int)+1)+1)=(((j+1):Int)+1)from(by omega))) Eb) (Hx 700 (congrArg (fun x=>q0d.row 3 (.ints x)) (show((Gt.frL j)++[((j:Int)+1)])=(Gt.frL (j+1))from(by exact Gt.fr_next))) Hb)))))))))
         ·
          refine ap ?_ az
          (simp only[Qa8,Qb5,Qa3,Qa9,Qb6,Qb1];omega)
         ·
          refine ap ?_ az
          omega
         ·
          show(j+1)≤n.toNat
          omega
         ·
          show n.toNat-(j+1)<n.toNat-j
          omega
        ·
         have hj:j=n.toNat:=by omega
         have hel:Cn.elE ((Cn.q1q (Gt.gatesR (n+1) (.node q v k l)).2.1 (Gt.gatesR (n+1) (.node q v k l)).2.2.1).2.1-1) ((Cn.q1q (Gt.gatesR (n+1) (.node q v k l)).2.1 (Gt.gatesR (n+1) (.node q v k l)).2.2.1).1++[[(Gt.gatesR (n+1) (.node q v k l)).1]]) (Gt.frL j) grow=0:=by rw[hj];exact Gt.gl_el (t:=(.node q v k l)) ⟨hn0,hn4⟩ (show n≤((Cn.q1q (Gt.gatesR (n+1) (.node q v k l)).2.1 (Gt.gatesR (n+1) (.node q v k l)).2.2.1).2.1-1) by omega) k4 ⟨hg0,hg1⟩
         have hen:=Gt.gl_n hel
         have hxb:=Gt.gl_xb (show((Cn.q1q (Gt.gatesR (n+1) (.node q v k l)).2.1 (Gt.gatesR (n+1) (.node q v k l)).2.2.1).2.1-1)≤30 by omega) k2 k3 (by omega) hel
         obtain⟨P9,hP9⟩:∃P9,P9=2^n.toNat:=⟨_,rfl⟩
         have hpw:(1:Int)*2^n.toNat=(P9:Int):=by rw[hP9];simp
         have hp2:P9≤16:=by rw[hP9];exact Qi3 (by decide) (show n.toNat≤4 by omega)
         refine Ze (Fe (Fe (Fs (Ft (Sq hcx [(1007,.to 291),(1009,.to 616)] [16] [77,7,11,12,15] [] [Fit ((Cn.q1q ((Gt.gatesR (n+1) (.node q v k l)).2.1) ((Gt.gatesR (n+1) (.node q v k l)).2.2.1)).2.1-1),(((Cn.q1q ((Gt.gatesR (n+1) (.node q v k l)).2.1) ((Gt.gatesR (n+1) (.node q v k l)).2.2.1)).1).length*24≤140737488355328),((((Cn.q1q ((Gt.gatesR (n+1) (.node q v k l)).2.1) ((Gt.gatesR (n+1) (.node q v k l)).2.2.1)).1).length+[[(Gt.gatesR (n+1) (.node q v k l)).1]].length)*24≤140737488355328)] ?_ (Zs (Zn [(291,.to 291),(616,.to 616),(700,.frz)] [16,1,2,3,14] (Zn [(616,.to 616),(291,.frz)] [16,1,2,3,14] (Tq hcx [(1008,.to 617)] [17,19] [2,14] [] [((((Cn.q1q ((Gt.gatesR (n+1) (.node q v k l)).2.1) ((Gt.gatesR (n+1) (.node q v k l)).2.2.1)).1)++[[(Gt.gatesR (n+1) (.node q v k l)).1]]).length≤61∧(∀z9∈(((Cn.q1q ((Gt.gatesR (n+1) (.node q v k l)).2.1) ((Gt.gatesR (n+1) (.node q v k l)).2.2.1)).1)++[[(Gt.gatesR (n+1) (.node q v k l)).1]]),z9.length≤100)∧((Cn.q1q ((Gt.gatesR (n+1) (.node q v k l)).2.1) ((Gt.gatesR (n+1) (.node q v k l)).2.2.1)).2.1-1)≤30∧(Gt.frL j).length≤maxLen∧(grow≤40∨1099511627776<grow))] ?_ (Ft (Zs (Sq hcx [] [109] [19,16] [616] [((!((Cn.elE ((Cn.q1q ((Gt.gatesR (n+1) (.node q v k l)).2.1) ((Gt.gatesR (n+1) (.node q v k l)).2.2.1)).2.1-1) (((Cn.q1q ((Gt.gatesR (n+1) (.node q v k l)).2.1) ((Gt.gatesR (n+1) (.node q v k l)).2.2.1)).1)++[[(Gt.gatesR (n+1) (.node q v k l)).1]]) (Gt.frL j) grow) !=0))=true→((!((Cn.elE ((Cn.q1q ((Gt.gatesR (n+1) (.node q v k l)).2.1) ((Gt.gatesR (n+1) (.node q v k l)).2.2.1)).2.1-1) (((Cn.q1q ((Gt.gatesR (n+1) (.node q v k l)).2.1) ((Gt.gatesR (n+1) (.node q v k l)).2.2.1)).1)++[[(Gt.gatesR (n+1) (.node q v k l)).1]]) (Gt.frL j) grow) !=0))=true)),((!((Cn.elE ((Cn.q1q ((Gt.gatesR (n+1) (.node q v k l)).2.1) ((Gt.gatesR (n+1) (.node q v k l)).2.2.1)).2.1-1) (((Cn.q1q ((Gt.gatesR (n+1) (.node q v k l)).2.1) ((Gt.gatesR (n+1) (.node q v k l)).2.2.1)).1)++[[(Gt.gatesR (n+1) (.node q v k l)).1]]) (Gt.frL j) grow) !=0))=true→((!((Cn.elE ((Cn.q1q ((Gt.gatesR (n+1) (.node q v k l)).2.1) ((Gt.gatesR (n+1) (.node q v k l)).2.2.1)).2.1-1) (((Cn.q1q ((Gt.gatesR (n+1) (.node q v k l)).2.1) ((Gt.gatesR (n+1) (.node q v k l)).2.2.1)).1)++[[(Gt.gatesR (n+1) (.node q v k l)).1]]) (Gt.frL j) grow) !=0))=true)),((!((Cn.elE ((Cn.q1q ((Gt.gatesR (n+1) (.node q v k l)).2.1) ((Gt.gatesR (n+1) (.node q v k l)).2.2.1)).2.1-1) (((Cn.q1q ((Gt.gatesR (n+1) (.node q v k l)).2.1) ((Gt.gatesR (n+1) (.node q v k l)).2.2.1)).1)++[[(Gt.gatesR (n+1) (.node q v k l)).1]]) (Gt.frL j) grow) !=0))=true→((!((Cn.elE ((Cn.q1q ((Gt.gatesR (n+1) (.node q v k l)).2.1) ((Gt.gatesR (n+1) (.node q v k l)).2.2.1)).2.1-1) (((Cn.q1q ((Gt.gatesR (n+1) (.node q v k l)).2.1) ((Gt.gatesR (n+1) (.node q v k l)).2.2.1)).1)++[[(Gt.gatesR (n+1) (.node q v k l)).1]]) (Gt.frL j) grow) !=0))=true)),((!((Cn.elE ((Cn.q1q ((Gt.gatesR (n+1) (.node q v k l)).2.1) ((Gt.gatesR (n+1) (.node q v k l)).2.2.1)).2.1-1) (((Cn.q1q ((Gt.gatesR (n+1) (.node q v k l)).2.1) ((Gt.gatesR (n+1) (.node q v k l)).2.2.1)).1)++[[(Gt.gatesR (n+1) (.node q v k l)).1]]) (Gt.frL j) grow) !=0))=true→((!((Cn.elE ((Cn.q1q ((Gt.gatesR (n+1) (.node q v k l)).2.1) ((Gt.gatesR (n+1) (.node q v k l)).2.2.1)).2.1-1) (((Cn.q1q ((Gt.gatesR (n+1) (.node q v k l)).2.1) ((Gt.gatesR (n+1) (.node q v k l)).2.2.1)).1)++[[(Gt.gatesR (n+1) (.node q v k l)).1]]) (Gt.frL j) grow) !=0))=true)),(((Cn.elE ((Cn.q1q ((Gt.gatesR (n+1) (.node q v k l)).2.1) ((Gt.gatesR (n+1) (.node q v k l)).2.2.1)).2.1-1) (((Cn.q1q ((Gt.gatesR (n+1) (.node q v k l)).2.1) ((Gt.gatesR (n+1) (.node q v k l)).2.2.1)).1)++[[(Gt.gatesR (n+1) (.node q v k l)).1]]) (Gt.frL j) grow) !=0)=false→(!((Cn.elE ((Cn.q1q ((Gt.gatesR (n+1) (.node q v k l)).2.1) ((Gt.gatesR (n+1) (.node q v k l)).2.2.1)).2.1-1) (((Cn.q1q ((Gt.gatesR (n+1) (.node q v k l)).2.1) ((Gt.gatesR (n+1) (.node q v k l)).2.2.1)).1)++[[(Gt.gatesR (n+1) (.node q v k l)).1]]) (Gt.frL j) grow) !=0))=true)] ?_ (Zi (b:=((Cn.elE ((Cn.q1q ((Gt.gatesR (n+1) (.node q v k l)).2.1) ((Gt.gatesR (n+1) (.node q v k l)).2.2.1)).2.1-1) (((Cn.q1q ((Gt.gatesR (n+1) (.node q v k l)).2.1) ((Gt.gatesR (n+1) (.node q v k l)).2.2.1)).1)++[[(Gt.gatesR (n+1) (.node q v k l)).1]]) (Gt.frL j) grow) !=0)||((Cn.elN ((Cn.q1q ((Gt.gatesR (n+1) (.node q v k l)).2.1) ((Gt.gatesR (n+1) (.node q v k l)).2.2.1)).2.1-1) (((Cn.q1q ((Gt.gatesR (n+1) (.node q v k l)).2.1) ((Gt.gatesR (n+1) (.node q v k l)).2.2.1)).1)++[[(Gt.gatesR (n+1) (.node q v k l)).1]]) (Gt.frL j) grow) !=((Cn.q1q ((Gt.gatesR (n+1) (.node q v k l)).2.1) ((Gt.gatesR (n+1) (.node q v k l)).2.2.1)).2.1-1))) (fun h6=>?_) fun h6=>?_)))))))))))))
         ·
          refine ap ?_ (ap ?_ (ap ?_ az))<;>
           first|omega|(simp only[Qa8,Qb5,Qa3,Qa9,Qb6,Qb1];omega)
         ·
          refine ap ?_ az
          exact⟨k2,k3,by omega,by rw[Gt.fr_len];unfold maxLen;omega,.inl (by omega)⟩
         ·
          refine ap ?_ (ap ?_ (ap ?_ (ap ?_ (ap (by exact q2j) az))))<;>
           exact id
         ·
          (exfalso;exact Gt.gl_dead hel hen h6)
         ·
          skip
          refine Zk (Ft (Zs (Sq hcx [] [111,112] [109] [] [((0:Int)≤n∧n≤64∧Fit (1*2^n.toNat))] ?_ (Zb (Lp (X:=Nat) (fun x0=>True) (fun x0=>([(1,.int n),(3,.pto [.int q,.int v,.int k,.ls (.trees l)]),(17,.loc 617 0),(111,.int (1*2^n.toNat)),(112,.int (x0:Int))],[(617,.box [.int (Cn.elN ((Cn.q1q ((Gt.gatesR (n+1) (.node q v k l)).2.1) ((Gt.gatesR (n+1) (.node q v k l)).2.2.1)).2.1-1) (((Cn.q1q ((Gt.gatesR (n+1) (.node q v k l)).2.1) ((Gt.gatesR (n+1) (.node q v k l)).2.2.1)).1)++[[(Gt.gatesR (n+1) (.node q v k l)).1]]) (Gt.frL j) grow),.intss (Cn.elX ((Cn.q1q ((Gt.gatesR (n+1) (.node q v k l)).2.1) ((Gt.gatesR (n+1) (.node q v k l)).2.2.1)).2.1-1) (((Cn.q1q ((Gt.gatesR (n+1) (.node q v k l)).2.1) ((Gt.gatesR (n+1) (.node q v k l)).2.2.1)).1)++[[(Gt.gatesR (n+1) (.node q v k l)).1]]) (Gt.frL j) grow)])])) (fun x0=>P9-x0) (0) ?_ (Ex 112 (congrArg AV.int (show 0=(0:Int)from(by first|rfl|omega|(simp;done)))) Eb) Hb fun m hI=>?_)))))
          ·
           refine ap ?_ az
           omega
          ·
           show True
           exact True.intro
          ·
           replace hI:True:=hI
           refine Sz hcx [] [113] [] [] (Zs (Zj (p:=((m:Int)<(1*2^n.toNat))) (fun h7=>?_) fun h7=>?_))
           ·
            refine Zk (Ft (Zs (Zb (Sz hcx [] [20] [113] [] (Sq hcx [(1002,.to 317)] [21] [20] [] [(0≤n∧n≤60)] ?_ (Zs (Zn [(617,.to 617),(317,.frz)] [21,1,3,17,111,112] (Td hcx hmx [0,0,3,0,0,31,63] [] [124] [21] [] [((j0e n.toNat (m:Int)).length≤10∧0≤(Cn.elN ((Cn.q1q ((Gt.gatesR (n+1) (.node q v k l)).2.1) ((Gt.gatesR (n+1) (.node q v k l)).2.2.1)).2.1-1) (((Cn.q1q ((Gt.gatesR (n+1) (.node q v k l)).2.1) ((Gt.gatesR (n+1) (.node q v k l)).2.2.1)).1)++[[(Gt.gatesR (n+1) (.node q v k l)).1]]) (Gt.frL j) grow)∧(Cn.elN ((Cn.q1q ((Gt.gatesR (n+1) (.node q v k l)).2.1) ((Gt.gatesR (n+1) (.node q v k l)).2.2.1)).2.1-1) (((Cn.q1q ((Gt.gatesR (n+1) (.node q v k l)).2.1) ((Gt.gatesR (n+1) (.node q v k l)).2.2.1)).1)++[[(Gt.gatesR (n+1) (.node q v k l)).1]]) (Gt.frL j) grow)≤20∧((j0e n.toNat (m:Int)).length:Int)≤(Cn.elN ((Cn.q1q ((Gt.gatesR (n+1) (.node q v k l)).2.1) ((Gt.gatesR (n+1) (.node q v k l)).2.2.1)).2.1-1) (((Cn.q1q ((Gt.gatesR (n+1) (.node q v k l)).2.1) ((Gt.gatesR (n+1) (.node q v k l)).2.2.1)).1)++[[(Gt.gatesR (n+1) (.node q v k l)).1]]) (Gt.frL j) grow)+1∧(Cn.elX ((Cn.q1q ((Gt.gatesR (n+1) (.node q v k l)).2.1) ((Gt.gatesR (n+1) (.node q v k l)).2.2.1)).2.1-1) (((Cn.q1q ((Gt.gatesR (n+1) (.node q v k l)).2.1) ((Gt.gatesR (n+1) (.node q v k l)).2.2.1)).1)++[[(Gt.gatesR (n+1) (.node q v k l)).1]]) (Gt.frL j) grow).length≤maxLen∧∀z9∈(Cn.elX ((Cn.q1q ((Gt.gatesR (n+1) (.node q v k l)).2.1) ((Gt.gatesR (n+1) (.node q v k l)).2.2.1)).2.1-1) (((Cn.q1q ((Gt.gatesR (n+1) (.node q v k l)).2.1) ((Gt.gatesR (n+1) (.node q v k l)).2.2.1)).1)++[[(Gt.gatesR (n+1) (.node q v k l)).1]]) (Gt.frL j) grow),z9.length≤maxLen),(l.length≤2932031007317∧Fl.q2b l∧(j0e n.toNat (m:Int)).length≤maxLen)] ?_ (Ft (Zi (b:= !((u5z (Cn.elN ((Cn.q1q ((Gt.gatesR (n+1) (.node q v k l)).2.1) ((Gt.gatesR (n+1) (.node q v k l)).2.2.1)).2.1-1) (((Cn.q1q ((Gt.gatesR (n+1) (.node q v k l)).2.1) ((Gt.gatesR (n+1) (.node q v k l)).2.2.1)).1)++[[(Gt.gatesR (n+1) (.node q v k l)).1]]) (Gt.frL j) grow) (Cn.elX ((Cn.q1q ((Gt.gatesR (n+1) (.node q v k l)).2.1) ((Gt.gatesR (n+1) (.node q v k l)).2.2.1)).2.1-1) (((Cn.q1q ((Gt.gatesR (n+1) (.node q v k l)).2.1) ((Gt.gatesR (n+1) (.node q v k l)).2.2.1)).1)++[[(Gt.gatesR (n+1) (.node q v k l)).1]]) (Gt.frL j) grow) (j0e n.toNat (m:Int)))==(Fl.z1p (j0e n.toNat (m:Int)) q v k l))) (fun h8=>?_) fun h8=>?_))))))))))
            ·
             refine ap ?_ az
             omega
            ·
             refine ap ?_ (ap ?_ az)<;>
              first|exact⟨by rw[q7l];omega,by rw[hen];omega,by rw[hen];omega,by rw[hen,q7l];omega,hxb.1,hxb.2⟩|exact⟨hm1,hm2,by rw[q7l];unfold maxLen;omega⟩
            ·
             (exfalso;exact Gt.gl_dead2 (by rw[hen,hj];exact Gt.gl_fin (g:=grow) (a:=j0e n.toNat (m:Int)) ⟨hn0,hn4⟩ ⟨hg0,hg1⟩ h53 h64 h13 h60 (by rw[q7l];omega)) h8)
            ·
             skip
             refine Zk (Fb (Ft (Tq hcx [] [112] [124] [] [Fit ((m:Int)+1)] ?_ (Lr (m+1) ?_ ?_ (Ex 112 (congrArg AV.int (show((m:Int)+1)=((m+1):Int)from(by first|rfl|omega|(simp;done)))) Eb) Hb))))
             ·
              refine ap ?_ az
              omega
             ·
              show True
              exact True.intro
             ·
              show P9-(m+1)<P9-m
              omega
           ·
            exact Ze (Fe (Fe (Fs (Ft (Sz hcx [] [6] [113,1,3,17,111,112] [617] (Zr (Ru hcx [])))))))
 ·
  cases hσ
end Go.Proofs.YteikjpbbhopkaaaGreatDoor.En
