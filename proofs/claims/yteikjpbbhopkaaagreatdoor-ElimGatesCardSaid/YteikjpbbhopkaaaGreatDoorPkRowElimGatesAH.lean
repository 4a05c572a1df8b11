/- Lemmas and contracts for the row. -/
import Derived.Test.YteikjpbbhopkaaaGreatDoorPkRowElimGatesAF
import Derived.Test.YteikjpbbhopkaaaGreatDoorPkRowElimGatesAE
import Derived.Test.YteikjpbbhopkaaaGreatDoorPkRowElimGatesZ
set_option linter.unusedVariables false
set_option linter.unusedSimpArgs false
set_option linter.unnecessarySimpa false
namespace Go.Proofs.YteikjpbbhopkaaaGreatDoor.En
open Go Go.RowKit
def x0s:List (Nat×TD):=[(3,⟨1,false,[.int .i64 0],[],none,8,false,1,51⟩),
 (22,⟨1,false,[.slice none 0 0],[],some 24,24,false,0,0⟩),
 (24,⟨4,true,[.int .i64 0,.int .i64 0,.int .i64 0,.slice none 0 0],[(0,3),(1,3),(2,3),(3,22)],none,48,false,0,4⟩),
 (28,⟨1,false,[.int .i64 0],[],none,8,false,1,1⟩),
 (69,⟨1,false,[.nilFunc],[],none,8,false,0,0⟩)]
theorem z8p:q5u Tryz.prog x0s:=⟨⟨by kernel_rfl,by kernel_rfl,by kernel_rfl⟩,⟨by kernel_rfl,by kernel_rfl,by kernel_rfl⟩,⟨by kernel_rfl,by kernel_rfl,by kernel_rfl⟩,⟨by kernel_rfl,by kernel_rfl,by kernel_rfl⟩,⟨by kernel_rfl,by kernel_rfl,by kernel_rfl⟩,trivial⟩
def z1b (nn:Nat):CtF
 |[.agg [.im (.val (.int .i64 q)),.im (.val (.int .i64 v)),.im (.val (.int .i64 k)),.im (.ls (.trees l))]],[]=>some (l.length≤2932031007317∧Fl.q2b l∧Fl.q0p l<nn,.int (Gt.sizW (.node q v k l)),[])
 |_,_=>none
def y7x (nn:Nat):Cx:=⟨x0s,[(5,(q1j [.agg [.id,.id,.id,.ld (.trees [])]] (z1b nn)))],false⟩
theorem y5q (nn:Nat) (hR:q0c Tryz.prog 5 (z1b nn)):q1c Tryz.prog (y7x nn):=q0s z8p ⟨(hR.coe [.agg [.id,.id,.id,.ld (.trees [])]] rfl),trivial⟩
theorem x4h (nn:Nat) (hR:q0c Tryz.prog 5 (z1b nn)):q0c Tryz.prog 5 (z1b (nn+1)):=by
 refine Sw (cx:=(y7x nn)) Tryz.f5 Tryz.func5 ?_
 intro wW wO wβ G0 args os p r outs hσ hp
 have hcx:=y5q nn hR
 unfold z1b at hσ
 split at hσ
 ·
  rename_i q v k l
  cases hσ
  refine⟨by kernel_rfl,?_⟩
  obtain⟨hm1,hm2,hsz⟩:=hp
  have hm9:=hm1
  refine Sz hcx [(1000,.frz)] [1] [0] [] (Sz hcx [] [3] [] [] (Zs (Sz hcx [] [4] [] [] (Zb (Lp (X:=Nat) (fun x0=>x0≤l.length) (fun x0=>([(1,.pto [.int q,.int v,.int k,.ls (.trees l)]),(3,.int (Gt.sizWL 1 (l.take x0))),(4,.int (x0:Int))],[])) (fun x0=>l.length-x0) (0) ?_ (Ex 3 (congrArg AV.int (show 1=(Gt.sizWL 1 (l.take 0))from(by exact Gt.siz_0))) (Ex 4 (congrArg AV.int (show 0=(0:Int)from(by first|rfl|omega|(simp;done)))) Eb)) Hb fun i hI=>?_)))))
  ·
   show 0≤l.length
   omega
  ·
   replace hI:i≤l.length:=hI
   have hsub:i<l.length→Fl.q0p (l.getD i q0a).l<Fl.q0p l:=fun h=>Fl.z1z h
   have hlen:i<l.length→_:=fun h=>Fl.z8f hm2 h
   refine Zs (Sz hcx [] [9] [] [] (Zj (p:=((i:Int)<(l.length:Int))) (fun h0=>?_) fun h0=>?_))
   ·
    refine Zk (Ft (Zs (Zb (Tq hcx [] [3] [9] [] [((0:Int)≤(i:Int)∧(i:Int)<(l.length:Int)),(((l.getD i q0a).l).length≤2932031007317∧Fl.q2b ((l.getD i q0a).l)∧Fl.q0p ((l.getD i q0a).l)<nn)] ?_ (Fb (Ft (Tz hcx [] [4] [] [] (Lr (i+1) ?_ ?_ (Ex 3 (congrArg AV.int (show(wrap64 ((Gt.sizWL 1 (l.take i))+(Gt.sizW (.node ((l.getD i q0a).kind) ((l.getD i q0a).v) ((l.getD i q0a).k) ((l.getD i q0a).l)))))=(Gt.sizWL 1 (l.take (i+1)))from(by exact Gt.siz_next (by omega)))) (Ex 4 (congrArg AV.int (show(wrap64 ((i:Int)+1))=((i+1):Int)from(by exact Gt.wr_nat (by omega)))) Eb)) Hb))))))))
    ·
     refine ap ?_ (ap ?_ az)<;>
      first|omega|(have h8:=hsub (by omega);have h7:=hlen (by omega);exact⟨h7.1,h7.2,by omega⟩)
    ·
     show(i+1)≤l.length
     omega
    ·
     show l.length-(i+1)<l.length-i
     omega
   ·
    exact Ze (Fe (Fe (Fs (Ft (Sz hcx [] [2] [9,1,3,4] [] (Zr (Rv hcx (congrArg AV.int (show(Gt.sizWL 1 (l.take i))=(Gt.sizW (.node q v k l))from(by exact Gt.siz_end (by omega)))) [] rfl)))))))
 ·
  cases hσ
theorem k1t:∀nn,q0c Tryz.prog 5 (z1b nn):=z2k (z4a (fn:=Tryz.f5) Tryz.func5 (by kernel_rfl) rfl (fun args os p r outs hσ hp=>by
 unfold z1b at hσ
 split at hσ
 ·simp only[Option.some.injEq,Prod.mk.injEq]at hσ
  obtain⟨rfl,rfl,rfl⟩:=hσ
  exact absurd hp.2.2 (Qp3 _)
 ·cases hσ)) x4h
def y4v:CtF
 |[.agg [.im (.val (.int .i64 q)),.im (.val (.int .i64 v)),.im (.val (.int .i64 k)),.im (.ls (.trees l))]],[]=>some (l.length≤2932031007317∧Fl.q2b l,.int (Gt.sizW (.node q v k l)),[])
 |_,_=>none
theorem y6t:q0c Tryz.prog 5 y4v:=z6r k1t (fun args os p r outs hσ hp=>by
 unfold y4v at hσ
 split at hσ
 ·rename_i q v k l
  simp only[Option.some.injEq,Prod.mk.injEq]at hσ
  obtain⟨rfl,rfl,rfl⟩:=hσ
  exact⟨Fl.q0p l+1,_,rfl,⟨hp.1,hp.2,Qk9 _⟩⟩
 ·cases hσ)
def j9r:Cx:=⟨x0s,[],false⟩
theorem y2u:q1c Tryz.prog j9r:=q0s z8p trivial
def j5t:CtF
 |[.agg [.im (.val (.int .i64 q)),.im (.val (.int .i64 v)),.im (.val (.int .i64 k)),.im (.ls (.trees l))]],[]=>some (True,.clo 100 [.pto [.int q,.int v,.int k,.ls (.trees l)]],[])
 |_,_=>none
theorem j9s:q0c Tryz.prog 65 j5t:=by
 refine Sw (cx:=j9r) Tryz.f65 Tryz.func65 ?_
 intro wW wO wβ G0 args os p r outs hσ hp
 have hcx:=y2u
 unfold j5t at hσ
 split at hσ
 ·
  rename_i q v k l
  cases hσ
  refine⟨by kernel_rfl,?_⟩
  exact Sz hcx [(1000,.frz)] [1] [0] [] (Sz hcx [] [2] [1] [] (Zr (Ru hcx [])))
 ·
  cases hσ
def x0p:Cx:=⟨x0s,[(65,(q1j [.agg [.id,.id,.id,.ld (.trees [])]] j5t)),(66,z8v)],false⟩
theorem y6k:q1c Tryz.prog x0p:=q0s z8p ⟨(j9s.coe [.agg [.id,.id,.id,.ld (.trees [])]] rfl),j3t,trivial⟩
def y4f:CtF
 |[.agg [.im (.val (.int .i64 q)),.im (.val (.int .i64 v)),.im (.val (.int .i64 k)),.im (.ls (.trees l))],.im (.val (.int .i64 n))],[]=>some (l.length≤2932031007317∧Fl.q2b l,.int (Gt.chkW n q v k l),[])
 |_,_=>none
theorem y4e:q0c Tryz.prog 37 y4f:=by
 refine Sw (cx:=x0p) Tryz.f37 Tryz.func37 ?_
 intro wW wO wβ G0 args os p r outs hσ hp
 have hcx:=y6k
 unfold y4f at hσ
 split at hσ
 ·
  rename_i q v k l n
  cases hσ
  refine⟨by kernel_rfl,?_⟩
  obtain⟨hm1,hm2⟩:=hp
  refine Sz hcx [(1002,.to 604),(1000,.frz),(1001,.frz)] [2,3,4] [0,1] [] (Zs (Sq hcx [] [12] [] [] [((!(decide (n<0)))=true→((!(decide (n<0)))=true)),((decide (n<0))=false→(!(decide (n<0)))=true)] ?_ (Zi (b:=(decide (n<0))||(decide (n>65536))) (fun h0=>?_) fun h0=>?_)))
  ·
   refine ap ?_ (ap (by exact q2j) az)
   exact id
  ·
   have hb:=h0
   exact Sz hcx [(604,.to 604)] [] [12,2,3] [] (Zr (Fr (Rv hcx (congrArg AV.int (show 1=(Gt.chkW n q v k l)from(by exact Gt.cw_out hb))) [] rfl)))
  ·
   have hb:=h0
   refine Zk (Ft (Sz hcx [(1000,.to 605)] [5] [12] [] (Zs (Sq hcx [] [14] [2] [] [(True)] ?_ (Zb ?_)))))
   ·
    refine ap ?_ az
    exact True.intro
   refine z9b (ρ:=[(605,.to 0),(604,.to 1)]) (keys:=[14,5,3,4]) (E':=[(14,.clo 100 [.pto [.int q,.int v,.int k,.ls (.trees l)]]),(5,.loc 0 0),(3,.pto [.int n]),(4,.loc 1 0)]) (H':=[(0,.box [.int 0]),(1,.box [.int 0])]) (by kernel_rfl) ?_
   refine z9t (X:=Unit) rfl y0t (caps:=[.pto [.int q,.int v,.int k,.ls (.trees l)]]) (by kernel_rfl) (N:=Fl.q2a (.node q v k l)) (el:=fun i=>[.agg [.int (((Fl.q0v (.node q v k l)).getD i q0a).kind),.int (((Fl.q0v (.node q v k l)).getD i q0a).v),.int (((Fl.q0v (.node q v k l)).getD i q0a).k),.trees (((Fl.q0v (.node q v k l)).getD i q0a).l)]]) rfl (by kernel_rfl) ?_ 2 970 989 (by kernel_rfl) (fun i x0=>∀j,j<i→Fl.q8l n ((Fl.q0v (.node q v k l)).getD j q0a)=true) (fun i x0=>[(0,.box [.int (wrap64 (i:Int))]),(1,.box [.int 0])]) (fun i x0=>[(14,.clo 100 [.pto [.int q,.int v,.int k,.ls (.trees l)]]),(5,.loc 0 0),(3,.pto [.int n]),(4,.loc 1 0),(6,.loc 606 0)]) (fun i x0=>[(0,.box [.int (wrap64 (i:Int))]),(1,.box [.int 0]),(606,.box [.int (((Fl.q0v (.node q v k l)).getD i q0a).kind),.int (((Fl.q0v (.node q v k l)).getD i q0a).v),.int (((Fl.q0v (.node q v k l)).getD i q0a).k),.trees (((Fl.q0v (.node q v k l)).getD i q0a).l)])]) (()) ?_ ?_ (fun _ _=>rfl) (fun _ _ _=>by kernel_rfl) (fun _ _=>by kernel_rfl) ?_ ?_ ?_
   ·
    exact True.intro
   ·
    show∀j,j<0→Fl.q8l n ((Fl.q0v (.node q v k l)).getD j q0a)=true
    exact fun j hj=>by omega
   ·
    exact Hx 0 (o:=.box [.int 0]) (o':=.box [.int (wrap64 (0:Int))]) (congrArg q0d.box (q0f (congrArg AV.int (show 0=(wrap64 (0:Int))from(by exact Gt.wr_0))) rfl)) Hb
   ·
    intro Wr Or βr Gr l0 r0 i un hi0 hI0
    replace hI0:∀j,j<i→Fl.q8l n ((Fl.q0v (.node q v k l)).getD j q0a)=true:=hI0
    have hmx:=Gt.node_mx (q:=q) (v:=v) (k:=k) hm1 hm2 hi0
    change Tri _ [(15,.agg [.int (((Fl.q0v (.node q v k l)).getD i q0a).kind),.int (((Fl.q0v (.node q v k l)).getD i q0a).v),.int (((Fl.q0v (.node q v k l)).getD i q0a).k),.trees (((Fl.q0v (.node q v k l)).getD i q0a).l)]),(14,.clo 100 [.pto [.int q,.int v,.int k,.ls (.trees l)]]),(5,.loc 0 0),(3,.pto [.int n]),(4,.loc 1 0)] [(970,.other l0 (.loop r0)),(0,.box [.int (wrap64 (i:Int))]),(1,.box [.int 0])] _ _
    refine Zt (Tz hcx [(1000,.to 606)] [6] [15] [] (Fn [(970,.to 970),(0,.to 0),(1,.to 1),(606,.to 606)] [3,4,5,6,14] ?_))
    refine q9z ?_ ?_
    ·
     exact Eb
    ·
     exact Hb
   ·
    intro Wr Or βr Gr l0 r0 i un hi0 hI0
    replace hI0:∀j,j<i→Fl.q8l n ((Fl.q0v (.node q v k l)).getD j q0a)=true:=hI0
    have hmx:=Gt.node_mx (q:=q) (v:=v) (k:=k) hm1 hm2 hi0
    change Tri _ [(14,.clo 100 [.pto [.int q,.int v,.int k,.ls (.trees l)]]),(5,.loc 0 0),(3,.pto [.int n]),(4,.loc 1 0),(6,.loc 606 0)] [(970,.other l0 (.loop r0)),(0,.box [.int (wrap64 (i:Int))]),(1,.box [.int 0]),(606,.box [.int (((Fl.q0v (.node q v k l)).getD i q0a).kind),.int (((Fl.q0v (.node q v k l)).getD i q0a).v),.int (((Fl.q0v (.node q v k l)).getD i q0a).k),.trees (((Fl.q0v (.node q v k l)).getD i q0a).l)])] _ _
    refine Zt (Zb (Zs (Sq hcx [] [19] [14,3,6] [606] [((((Fl.q0v (.node q v k l)).getD i q0a).l).length≤maxLen)] ?_ (Zi (b:= !(Fl.q5o n (((Fl.q0v (.node q v k l)).getD i q0a).kind) (((Fl.q0v (.node q v k l)).getD i q0a).v) (((Fl.q0v (.node q v k l)).getD i q0a).k) (((Fl.q0v (.node q v k l)).getD i q0a).l).length)) (fun h1=>?_) fun h1=>?_))))
    ·
     refine ap ?_ az
     (unfold maxLen;omega)
    ·
     have hq:=h1
     refine Sz hcx [(1,.to 1)] [] [19,5] [] (Zr (Fr (Fk ?_)))
     refine j6c (ρ:=[(970,.to 970),(0,.to 0),(1,.to 1)]) (keys:=[]) (E':=[]) (H':=[(970,.other l0 (.loop r0)),(0,.box [.int (wrap64 (i:Int))]),(1,.box [.int 1])]) (by kernel_rfl) ?_
     refine k8b [(0,.box [.int (wrap64 (i:Int))]),(1,.box [.int 1])] rfl (by kernel_rfl) ⟨by kernel_rfl,fun D0=>?_⟩
     change Fin _ [(14,.clo 100 [.pto [.int q,.int v,.int k,.ls (.trees l)]]),(5,.loc 0 0),(3,.pto [.int n]),(4,.loc 1 0)] [(989,.other D0 dfr),(0,.box [.int (wrap64 (i:Int))]),(1,.box [.int 1])] _ _
     exact Zf (Fk (Fr (Fn [(989,.to 989),(1,.to 990)] [4] (Fq [(4,.loc 990 0)] [(989,.other D0 dfr),(990,.box [.int 1])] (q9m _ rfl [(989,D0)] rfl rfl ⟨rfl,trivial⟩ hcx (avs:=[.int 1]) (by kernel_rfl) (congrArg AV.int (show 1=(Gt.chkW n q v k l)from(by exact Gt.cw_no hi0 hq))) [] rfl)))))
    ·
     have hq:=h1
     refine Zk (Ft (Tz hcx [(0,.to 0)] [] [19,5,4] [] (Fb (Fn [(970,.to 970),(0,.to 0),(1,.to 1)] [] ?_))))
     refine q5l (()) ?_ ?_
     ·
      show∀j,j<(i+1)→Fl.q8l n ((Fl.q0v (.node q v k l)).getD j q0a)=true
      exact fun j hj=>by rcases(by omega:j<i∨j=i)with h|rfl;exact hI0 j h;exact Fl.k8n hq
     ·
      exact Hx 0 (o:=.box [.int (wrap64 ((wrap64 (i:Int))+1))]) (o':=.box [.int (wrap64 ((i+1):Int))]) (congrArg q0d.box (q0f (congrArg AV.int (show(wrap64 ((wrap64 (i:Int))+1))=(wrap64 ((i+1):Int))from(by first|exact Gt.wr_next|rfl))) rfl)) Hb
   ·
    intro D0 un hI0
    replace hI0:∀j,j<(Fl.q2a (.node q v k l))→Fl.q8l n ((Fl.q0v (.node q v k l)).getD j q0a)=true:=hI0
    change Fin _ [(14,.clo 100 [.pto [.int q,.int v,.int k,.ls (.trees l)]]),(5,.loc 0 0),(3,.pto [.int n]),(4,.loc 1 0)] [(989,.other D0 dfr),(0,.box [.int (wrap64 ((Fl.q2a (.node q v k l)):Int))]),(1,.box [.int 0])] _ _
    refine Zf (Fb (Ft (Zs (Sz hcx [] [23] [14,5,3] [0] (Zi (b:=decide ((wrap64 ((Fl.q2a (.node q v k l)):Int))>65536)) (fun h2=>?_) fun h2=>?_)))))
    ·
     have hc:=h2
     exact Sz hcx [(1,.to 1)] [] [23] [] (Zr (Fr (Fn [(989,.to 989),(1,.to 990)] [4] (Fq [(4,.loc 990 0)] [(989,.other D0 dfr),(990,.box [.int 2])] (q9m _ rfl [(989,D0)] rfl rfl ⟨rfl,trivial⟩ hcx (avs:=[.int 2]) (by kernel_rfl) (congrArg AV.int (show 2=(Gt.chkW n q v k l)from(by(rw[Gt.cw_end hb rfl rfl hI0,hc];rfl)))) [] rfl)))))
    ·
     have hc:=h2
     exact Zk (Ft (Sz hcx [(1,.to 1)] [] [23] [] (Zr (Fn [(989,.to 989),(1,.to 990)] [4] (Fq [(4,.loc 990 0)] [(989,.other D0 dfr),(990,.box [.int 0])] (q9m _ rfl [(989,D0)] rfl rfl ⟨rfl,trivial⟩ hcx (avs:=[.int 0]) (by kernel_rfl) (congrArg AV.int (show 0=(Gt.chkW n q v k l)from(by(rw[Gt.cw_end hb rfl rfl hI0,hc];rfl)))) [] rfl))))))
 ·
  cases hσ
end Go.Proofs.YteikjpbbhopkaaaGreatDoor.En
