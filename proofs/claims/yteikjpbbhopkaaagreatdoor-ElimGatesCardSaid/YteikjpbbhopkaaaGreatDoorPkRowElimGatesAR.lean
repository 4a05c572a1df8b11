/- Lemmas and contracts for the row. -/
import Derived.Test.YteikjpbbhopkaaaGreatDoorPkRowElimGatesAQ
import Derived.TacticsInMore
import Derived.RegionIn
set_option linter.unusedVariables false
set_option linter.unusedSimpArgs false
set_option linter.unnecessarySimpa false
namespace Go.Proofs.YteikjpbbhopkaaaGreatDoor.En
open Go Go.RowKit
def x2p (e:Int):Value:=.iface 84 (.agg #[.int .i64 e])
theorem u9b {ops:Array Oper} {Q:Exit→Act→World→Prop} {a:Act} {W:World} {ty1 ty2 ty3:TypeId} {p1 p2 p3:String} {f1 f2 f3} {d1 d2:Nat} (h1:d1<a.tmps.size) (h2:d2<a.tmps.size) (hne:d1≠d2)
 (hq:∀a',a'.tmps.size=a.tmps.size→a'.defers=a.defers→(∀i,i≠d1→i≠d2→a'.tmps.getD i undef=a.tmps.getD i undef)→Q (.panic [{v:=x2p 2,recovered:=false}]) a' W):
 wpListIn (FR none) 3 Tryz.prog ops Q [⟨some d1,.build 84 #[(0,.const (.int .i64 2))],ty1,p1,f1,none⟩,⟨some d2,.makeInterface 84 (.tmp d1),ty2,p2,f2,none⟩,⟨none,.panic (.tmp d2),ty3,p3,f3,none⟩] a W:=by
 simp[wpListIn,go_sem,FR,Fence.wide,h1,h2]
 change Q (.panic [{v:=x2p 2,recovered:=false}]) _ W
 exact hq _ (by simp) rfl fun i hi hj=>by simp[hi,hj,Ne.symm hi,Ne.symm hj]
abbrev x2o:Value:=x2p 2
def x9r:CtF
 |[.loc 0 0,.im (.val (.int .i64 k)),.im (.ls (.ints lits))],[.box [.row 1,.im (.val (.int .i64 nx)),.row 2],.row 57 (.lins cs),.mfun [1,4,5,6] [.clo 62 [],.clo 63 [],.clo 61 [],.clo 64 []]]=>some (65536<nx,.any,[none,none,none])
 |_,_=>none
set_option maxRecDepth 20000 in
theorem q7p:q3v Tryz.prog 67 x9r (pan x2o):=by
 refine z7w (cx:=z8h) (fn:=Tryz.f67) Tryz.func67 (by kernel_rfl) rfl ?_
 intro w0 G0 args os p r outs hσ hp hm0 hd0
 have hcx:=z4s
 obtain⟨wW,wO,wm,wβ,wd⟩:=w0
 replace hm0:wm=os.length:=hm0
 replace hd0:wd=[]:=hd0
 subst hm0 hd0
 unfold x9r at hσ
 split at hσ
 ·
  rename_i k lits nx cs
  cases hσ
  refine⟨by kernel_rfl,?_⟩
  refine Zt (Sz hcx [] [] [] [] (Zs (Sz hcx [] [16] [] [] (Zi (b:=decide (nx>65536)) (fun h0=>?_) fun h0=>?_))))
  ·
   intro a W hs
   have hsz:a.tmps.size=Tryz.f67.ntmps:=hs.1
   refine wpIn_region_list ?_
   exact u9b (by rw[hsz];decide) (by rw[hsz];decide) (by decide) fun a' h1 h2 _=>y9c (fn:=Tryz.f67) (v:=x2o) (outs:=[none,none,none]) rfl (fun _ _ q=>q) _ _ (hs.bare h1 h2)
  ·
   exfalso
   have h9:=of_decide_eq_false h0
   omega
 ·
  cases hσ
def q6j (nn:Nat):CtB
 |[.loc 0 0,.agg [.im (.val (.int .i64 q)),.im (.val (.int .i64 v)),.im (.val (.int .i64 k)),.im (.ls (.trees l))]],[.box [.row 1,.im (.val (.int .i64 nx)),.row 2],.row 57 (.lins cs),.mfun [1,4,5,6] [.clo 62 [],.clo 63 [],.clo 61 [],.clo 64 []]]=>some ((Gt.fitT 65536 (.node q v k l)∧1≤nx∧nx≤65537∧(cs.length:Int)+2*(65537-nx)≤1000000000∧Fl.q0p l<nn),nx+((Gt.cntT (.node q v k l)):Nat)≤65537,.int ((Gt.gateT (.node q v k l) nx cs).1),[some (.box [.row 3,.int ((Gt.gateT (.node q v k l) nx cs).2.1),.row 2]),none,some (.mfun [1,4,5,6] [.clo 62 [],.clo 63 [],.clo 61 [],.clo 64 []]),some (.row 57 (.lins ((Gt.gateT (.node q v k l) nx cs).2.2)))])
 |_,_=>none
abbrev u0x (nn:Nat):CtF:=nrm (q6j nn)
def k3g (nn:Nat):Cx:=⟨q8x,[(101,(q1j [.id,.id,.id,.ld (.ints []),.id] z6m)),(61,(q1j [.agg [.id,.id,.id,.ld (.trees [])]] x4s)),(62,(q1j [.agg [.id,.id,.id,.ld (.trees [])]] x3v)),(63,(q1j [.agg [.id,.id,.id,.ld (.trees [])]] x3x)),(64,(q1j [.agg [.id,.id,.id,.ld (.trees [])]] x4p)),(48,z0k),(67,(q1j [.id,.id,.ld (.ints [])] z0e)),(39,(q1j [.id,.agg [.id,.id,.id,.ld (.trees [])]] (u0x nn)))],true⟩
theorem x4q (nn:Nat) (hR:q0c Tryz.prog 39 (u0x nn)):q1c Tryz.prog (k3g nn):=q0s q3o ⟨(q6m.coe [.id,.id,.id,.ld (.ints []),.id] rfl),(z2c.coe [.agg [.id,.id,.id,.ld (.trees [])]] rfl),(z2o.coe [.agg [.id,.id,.id,.ld (.trees [])]] rfl),(z1s.coe [.agg [.id,.id,.id,.ld (.trees [])]] rfl),(z1r.coe [.agg [.id,.id,.id,.ld (.trees [])]] rfl),q2t,(q6c.coe [.id,.id,.ld (.ints [])] rfl),(hR.coe [.id,.agg [.id,.id,.id,.ld (.trees [])]] rfl),trivial⟩
set_option maxRecDepth 20000 in
set_option maxHeartbeats 4000000 in
theorem x8p (nn:Nat) (hR:q0c Tryz.prog 39 (nrm (q6j nn))) (hP:q3v Tryz.prog 39 (pnk (q6j nn)) (pan x2o)):q0c Tryz.prog 39 (nrm (q6j (nn+1)))∧q3v Tryz.prog 39 (pnk (q6j (nn+1))) (pan x2o):=by
 refine SwB (cx:=k3g nn) Tryz.f39 (q6j (nn+1)) Tryz.func39 ?_
 intro wW wO wβ G0 args os p fit r outs hσ hp
 have hcx:=x4q nn hR
 have hmx:Tryz.prog.follows .mixedOrders=true:=by kernel_rfl
 unfold q6j at hσ
 split at hσ
 ·
  rename_i q v k l nx cs
  cases hσ
  refine⟨by kernel_rfl,?_⟩
  obtain⟨hft0,hn1,hn2,hcs,hsz⟩:=hp
  obtain⟨hmy,hl4,hfl⟩:=hft0
  obtain⟨m1,m2,m3,m4,m5⟩:=Gt.fit_bd hmy
  refine Sz hcx [(1000,.frz)] [3] [1] [] (Zs (Sz hcx [] [10] [] [] (Zi (b:=q==2) (fun h0=>?_) fun h0=>?_)))
  ·
   have h10:q=2:=eq_of_beq h0
   have hr:=Gt.gt_var (v:=v) (k:=k) (l:=l) (nx:=nx) (cs:=cs) h10
   have hco:=Gt.cnt_var (v:=v) (k:=k) (l:=l) h10
   exact Sz hcx [] [4] [10,3,0] [] (Zr (Fr (Fn [(0,.to 0),(2,.to 2),(1,.to 3)] [4] (Rb (by first|omega|(rw[hk]at hco;omega)|(rw[hk]at hco hft;omega)) (Rv hcx (congrArg AV.int (show v=(Gt.gateT (.node q v k l) nx cs).1 from(by first|(rw[hr];done)|(rw[hr,hil];done)|(rw[hk]at hr;rw[hr,hil];done)|done))) [true,false,true,true] (q1g (congrArg some (congrArg q0d.box (q0f rfl (q0f (congrArg AV.int (show nx=(Gt.gateT (.node q v k l) nx cs).2.1 from(by first|(rw[hr];done)|(rw[hr,hil];done)|(rw[hk]at hr;rw[hr,hil];done)))) rfl)))) (q1g rfl (q1g rfl (q1g (congrArg some (congrArg (fun x=>q0d.row 57 (.lins x)) (show cs=(Gt.gateT (.node q v k l) nx cs).2.2 from(by first|(rw[hr];done)|(rw[hr,hil];done)|(rw[hk]at hr;rw[hr,hil];rfl))))) rfl)))))))))
  ·
   have h10:¬q=2:=fun e=>by have h9:=h0;rw[e]at h9;cases h9
   have hcl:=Gt.cnt_le (v:=v) (k:=k) (l:=l) h10
   refine Zk (Ft (Sz hcx [] [5] [10] [] (Zs (Sz hcx [] [14,15,16] [] [] (Zb (Zw 5 700 3 (.ints []) (Zn [(0,.to 0),(2,.to 2),(700,.to 700),(1,.to 701)] [0,3,5,14,15,16] (Lp (X:=Nat) (fun x0=>x0≤l.length∧nx+(Gt.cntL (l.take x0):Nat)≤65537) (fun x0=>([(0,.loc 0 0),(3,.pto [.int q,.int v,.int k,.ls (.trees l)]),(5,.row 700),(14,.trees l),(15,.int (l.length:Int)),(16,.int (x0:Int))],[(0,.box [.row 701,.int ((Gt.gateL (l.take x0) nx cs).2.1),.row 2]),(2,.mfun [1,4,5,6] [.clo 62 [],.clo 63 [],.clo 61 [],.clo 64 []]),(700,.row 3 (.ints ((Gt.gateL (l.take x0) nx cs).1))),(701,.row 57 (.lins ((Gt.gateL (l.take x0) nx cs).2.2)))])) (fun x0=>l.length-x0) (0) ?_ (Ex 16 (congrArg AV.int (show 0=(0:Int)from(by first|rfl|omega|(simp;done)))) Eb) (Hx 0 (o:=.box [.row 701,.int nx,.row 2]) (o':=.box [.row 701,.int ((Gt.gateL (l.take 0) nx cs).2.1),.row 2]) (congrArg q0d.box (q0f rfl (q0f (congrArg AV.int (show nx=(Gt.gateL (l.take 0) nx cs).2.1 from(by first|rfl|omega|(simp;done)))) rfl))) Hb) fun i hI=>?_))))))))
   ·
    exact⟨Qc1 _,Gt.cnt_0 hn2⟩
   ·
    try dsimp only at hI
    obtain⟨hIi,hIc⟩:=hI
    have hrd:=fun(h:i<l.length)=>Gt.rndB hfl h hn1 hIc hcs
    have hcr:=fun(h:i<l.length)=>Gt.cnt_round h
    have hnx:=Gt.next_L (l.take i) nx cs
    have hsub:=fun(h:i<l.length)=>Fl.z1z h
    have hpl:=Gt.gateL_len (l.take i) nx cs
    have htl:(l.take i).length≤i:=by rw[Qd0];omega
    refine Sz hcx [] [17] [] [] (Zs (Zj (p:=((i:Int)<(l.length:Int))) (fun h1=>?_) fun h1=>?_))
    ·
     refine Zk (Ft (Zs (Zb (Sq hcx [(1002,.to 607)] [7] [17] [] [((0:Int)≤(i:Int)∧(i:Int)<(l.length:Int))] ?_ (Kz (((Gt.gateL (l.take i) nx cs).2.1)+((Gt.cntT (.node ((l.getD i q0a).kind) ((l.getD i q0a).v) ((l.getD i q0a).k) ((l.getD i q0a).l))):Nat)≤65537) (fun hft=>Tq hcx [(0,.to 0),(2,.to 2),(1005,.to 700),(1003,.to 701)] [5] [7] [607,700,701] [((Gt.fitT 65536 (.node ((l.getD i q0a).kind) ((l.getD i q0a).v) ((l.getD i q0a).k) ((l.getD i q0a).l))∧1≤((Gt.gateL (l.take i) nx cs).2.1)∧((Gt.gateL (l.take i) nx cs).2.1)≤65537∧(((Gt.gateL (l.take i) nx cs).2.2).length:Int)+2*(65537-((Gt.gateL (l.take i) nx cs).2.1))≤1000000000∧Fl.q0p ((l.getD i q0a).l)<nn)∧((Gt.gateL (l.take i) nx cs).2.1)+((Gt.cntT (.node ((l.getD i q0a).kind) ((l.getD i q0a).v) ((l.getD i q0a).k) ((l.getD i q0a).l))):Nat)≤65537),((((Gt.gateL (l.take i) nx cs).1).length+[(Gt.gateT (.node ((l.getD i q0a).kind) ((l.getD i q0a).v) ((l.getD i q0a).k) ((l.getD i q0a).l)) ((Gt.gateL (l.take i) nx cs).2.1) ((Gt.gateL (l.take i) nx cs).2.2)).1].length)*8≤140737488355328)] ?_ (Fb (Ft (Tq hcx [] [16] [] [] [Fit ((i:Int)+1)] ?_ (Lr (i+1) ?_ ?_ (Ex 16 (congrArg AV.int (show((i:Int)+1)=((i+1):Int)from(by first|rfl|omega|(simp;done)))) Eb) (Hx 0 (o:=.box [.row 701,.int ((Gt.gateT (.node ((l.getD i q0a).kind) ((l.getD i q0a).v) ((l.getD i q0a).k) ((l.getD i q0a).l)) ((Gt.gateL (l.take i) nx cs).2.1) ((Gt.gateL (l.take i) nx cs).2.2)).2.1),.row 2]) (o':=.box [.row 701,.int ((Gt.gateL (l.take (i+1)) nx cs).2.1),.row 2]) (congrArg q0d.box (q0f rfl (q0f (congrArg AV.int (show(Gt.gateT (.node ((l.getD i q0a).kind) ((l.getD i q0a).v) ((l.getD i q0a).k) ((l.getD i q0a).l)) ((Gt.gateL (l.take i) nx cs).2.1) ((Gt.gateL (l.take i) nx cs).2.2)).2.1=(Gt.gateL (l.take (i+1)) nx cs).2.1 from(by exact Gt.rnd_2 (by omega)))) rfl))) (Hx 700 (congrArg (fun x=>q0d.row 3 (.ints x)) (show(((Gt.gateL (l.take i) nx cs).1)++[(Gt.gateT (.node ((l.getD i q0a).kind) ((l.getD i q0a).v) ((l.getD i q0a).k) ((l.getD i q0a).l)) ((Gt.gateL (l.take i) nx cs).2.1) ((Gt.gateL (l.take i) nx cs).2.2)).1])=(Gt.gateL (l.take (i+1)) nx cs).1 from(by exact Gt.rnd_1 (by omega)))) (Hx 701 (congrArg (fun x=>q0d.row 57 (.lins x)) (show(Gt.gateT (.node ((l.getD i q0a).kind) ((l.getD i q0a).v) ((l.getD i q0a).k) ((l.getD i q0a).l)) ((Gt.gateL (l.take i) nx cs).2.1) ((Gt.gateL (l.take i) nx cs).2.2)).2.2=(Gt.gateL (l.take (i+1)) nx cs).2.2 from(by exact Gt.rnd_3 (by omega)))) Hb)))))))) fun hft=>Pl (E':=[]) (H':=[]) 3 [] [] [((Gt.fitT 65536 (.node ((l.getD i q0a).kind) ((l.getD i q0a).v) ((l.getD i q0a).k) ((l.getD i q0a).l))∧1≤((Gt.gateL (l.take i) nx cs).2.1)∧((Gt.gateL (l.take i) nx cs).2.1)≤65537∧(((Gt.gateL (l.take i) nx cs).2.2).length:Int)+2*(65537-((Gt.gateL (l.take i) nx cs).2.1))≤1000000000∧Fl.q0p ((l.getD i q0a).l)<nn)∧¬(((Gt.gateL (l.take i) nx cs).2.1)+((Gt.cntT (.node ((l.getD i q0a).kind) ((l.getD i q0a).v) ((l.getD i q0a).k) ((l.getD i q0a).l))):Nat)≤65537))] hcx hP (ap (by have h8:=hrd (by omega);have h7:=hsub (by omega);exact⟨⟨h8.1,h8.2.1,h8.2.2.1,h8.2.2.2,by omega⟩,hft⟩) az) (Pf (by have:=hcr (by omega);omega)))))))
     ·
      refine ap ?_ az
      omega
     ·
      refine ap ?_ (ap ?_ az)<;>
       first|(simp only[Qa8,Qb5,Qa3,Qa9,Qb6,Qb1];omega)|(have h8:=hrd (by omega);have h7:=hsub (by omega);exact⟨⟨h8.1,h8.2.1,h8.2.2.1,h8.2.2.2,by omega⟩,hft⟩)
     ·
      refine ap ?_ az
      omega
     ·
      exact⟨by omega,by have:=hcr (by omega);omega⟩
     ·
      show l.length-(i+1)<l.length-i
      omega
    ·
     have hil:l.take i=l:=by rw[show i=l.length by omega,Qd3]
     rw[hil]at hIc
     have hbl:∀x∈(Gt.gateL (l.take i) nx cs).1,-65536≤x∧x≤65536:=by rw[hil];exact Gt.bd_L l nx cs hfl hn1 (by omega)
     have hnl:(Gt.gateL (l.take i) nx cs).2.1=nx+(Gt.cntL l:Nat):=by rw[hil];exact Gt.next_L l nx cs
     have hcl2:(Gt.gateL (l.take i) nx cs).2.2.length≤cs.length+2*Gt.cntL l:=by rw[hil];exact Gt.cons_L l nx cs
     have hgl:(Gt.gateL (l.take i) nx cs).1.length=l.length:=by rw[hil];exact Gt.gateL_len l nx cs
     refine Ze (Fe (Fe (Fs (Ft (Zs (Sz hcx [] [29] [17,14,15,16] [] (Zi (b:=q==3) (fun h2=>?_) fun h2=>?_)))))))
     ·
      have h29:q=3:=eq_of_beq h2
      have hr:=Gt.gt_not (v:=v) (k:=k) (l:=l) (nx:=nx) (cs:=cs) h10 h29
      have hb0:=hbl _ (Cn.q0t (d:=(0:Int)) (k:=0) (by rw[hgl,m3 h29];omega))
      have hm3:=m3 h29
      have hco:=Gt.cnt_not (v:=v) (k:=k) (l:=l) h29
      refine Sq hcx [] [4] [29,0,3,5] [700] [((0:Int)≤0∧0<(((Gt.gateL (l.take i) nx cs).1).length:Int)),(0<((Gt.gateL (l.take i) nx cs).1).length),Fit (-(((Gt.gateL (l.take i) nx cs).1).getD 0 0))] ?_ (Zr (Fr (Fn [(0,.to 0),(2,.to 2),(701,.to 3)] [4] (Rb (by first|omega|(rw[hk]at hco;omega)|(rw[hk]at hco hft;omega)) (Rv hcx (congrArg AV.int (show(-(((Gt.gateL (l.take i) nx cs).1).getD 0 0))=(Gt.gateT (.node q v k l) nx cs).1 from(by first|(rw[hr];done)|(rw[hr,hil];done)|(rw[hk]at hr;rw[hr,hil];done)|done))) [true,false,true,true] (q1g (congrArg some (congrArg q0d.box (q0f rfl (q0f (congrArg AV.int (show(Gt.gateL (l.take i) nx cs).2.1=(Gt.gateT (.node q v k l) nx cs).2.1 from(by first|(rw[hr];done)|(rw[hr,hil];done)|(rw[hk]at hr;rw[hr,hil];done)))) rfl)))) (q1g rfl (q1g rfl (q1g (congrArg some (congrArg (fun x=>q0d.row 57 (.lins x)) (show(Gt.gateL (l.take i) nx cs).2.2=(Gt.gateT (.node q v k l) nx cs).2.2 from(by first|(rw[hr];done)|(rw[hr,hil];done)|(rw[hk]at hr;rw[hr,hil];rfl))))) rfl)))))))))
      ·
       refine ap ?_ (ap ?_ (ap ?_ az))<;>
        omega
     ·
      have h29:¬q=3:=fun e=>by have h9:=h2;rw[e]at h9;cases h9
      have hr:=Gt.gt_one (v:=v) (k:=k) (l:=l) (nx:=nx) (cs:=cs) h10 h29
      have hco:=Gt.cnt_one (v:=v) (k:=k) (l:=l) h10 h29
      refine Zk (Ft (Zs (Zy [(29,.bool (q==3)),(0,.loc 0 0),(3,.pto [.int q,.int v,.int k,.ls (.trees l)]),(5,.row 700)] [(0,.box [.row 701,.int ((Gt.gateL (l.take i) nx cs).2.1),.row 2]),(2,.mfun [1,4,5,6] [.clo 62 [],.clo 63 [],.clo 61 [],.clo 64 []]),(700,.row 3 (.ints ((Gt.gateL (l.take i) nx cs).1))),(701,.row 57 (.lins ((Gt.gateL (l.take i) nx cs).2.2)))] ?_)))
      rcases(Gt.kind4 hmy h10 h29:q=1∨q=4∨q=5∨q=6)with hk|hk|hk|hk
      ·
       rw[hk]
       refine Zt (Zn [(0,.to 0),(2,.to 2),(701,.to 701),(700,.frz)] [29,0,3,5] (Kz (((Gt.gateL (l.take i) nx cs).2.1)≤65536) (fun hft=>Td hcx hmx [0,0,2,6,14,0,32,126,0,510,0,2047,4095] [(0,.to 0),(2,.to 2),(1011,.to 701)] [4] [29,0,3,5] [701] [(v=0∨v=1),(((Gt.gateL (l.take i) nx cs).1).length≤4095∧(∀x∈((Gt.gateL (l.take i) nx cs).1),-65536≤x∧x≤65536)∧((Gt.gateL (l.take i) nx cs).2.2).length≤999999998∧1≤((Gt.gateL (l.take i) nx cs).2.1)∧((Gt.gateL (l.take i) nx cs).2.1)≤65536∧0≤(1-v)∧(1-v)≤1099511627776)] ?_ (Ft (Zr (Fn [(0,.to 0),(2,.to 2),(701,.to 3)] [4] (Rb (by first|omega|(rw[hk]at hco;omega)|(rw[hk]at hco hft;omega)) (Rv hcx (congrArg AV.int (show((Gt.gateL (l.take i) nx cs).2.1)=(Gt.gateT (.node 1 v k l) nx cs).1 from(by first|(rw[hr];done)|(rw[hr,hil];done)|(rw[hk]at hr;rw[hr,hil];done)|done))) [true,false,true,true] (q1g (congrArg some (congrArg q0d.box (q0f rfl (q0f (congrArg AV.int (show(((Gt.gateL (l.take i) nx cs).2.1)+1)=(Gt.gateT (.node 1 v k l) nx cs).2.1 from(by first|(rw[hr];done)|(rw[hr,hil];done)|(rw[hk]at hr;rw[hr,hil];done)))) rfl)))) (q1g rfl (q1g rfl (q1g (congrArg some (congrArg (fun x=>q0d.row 57 (.lins x)) (show(((Gt.gateL (l.take i) nx cs).2.2)++Gt.freshG (1-v) ((Gt.gateL (l.take i) nx cs).1) ((Gt.gateL (l.take i) nx cs).2.1))=(Gt.gateT (.node 1 v k l) nx cs).2.2 from(by first|(rw[hr];done)|(rw[hr,hil];done)|(rw[hk]at hr;rw[hr,hil];rfl))))) rfl)))))))))) fun hft=>Pd (E':=[]) (H':=[]) 11 [0,0,2,6,14,0,32,126,0,510,0,2047,4095] [] [] [(v=0∨v=1),65536<((Gt.gateL (l.take i) nx cs).2.1)] hcx hmx q7p (ap (by first|exact True.intro|exact m1 hk) (ap (by omega) az)) (Pf (by first|omega|(rw[hk]at hco;omega)|(rw[hk]at hco hft;omega)))))
       ·
        refine ap ?_ (ap ?_ az)<;>
         first|omega|exact⟨by omega,hbl,by omega,by omega,by omega,by have:=m1 hk;omega,by have:=m1 hk;omega⟩
      ·
       rw[hk]
       refine Zt (Zn [(0,.to 0),(2,.to 2),(701,.to 701),(700,.frz)] [29,0,3,5] (Kz (((Gt.gateL (l.take i) nx cs).2.1)≤65536) (fun hft=>Td hcx hmx [0,0,2,6,14,0,32,126,0,510,0,2047,4095] [(0,.to 0),(2,.to 2),(1011,.to 701)] [4] [29,0,3,5] [701] [(True),(((Gt.gateL (l.take i) nx cs).1).length≤4095∧(∀x∈((Gt.gateL (l.take i) nx cs).1),-65536≤x∧x≤65536)∧((Gt.gateL (l.take i) nx cs).2.2).length≤999999998∧1≤((Gt.gateL (l.take i) nx cs).2.1)∧((Gt.gateL (l.take i) nx cs).2.1)≤65536∧0≤((l.length:Nat):Int)∧((l.length:Nat):Int)≤1099511627776)] ?_ (Ft (Zr (Fn [(0,.to 0),(2,.to 2),(701,.to 3)] [4] (Rb (by first|omega|(rw[hk]at hco;omega)|(rw[hk]at hco hft;omega)) (Rv hcx (congrArg AV.int (show((Gt.gateL (l.take i) nx cs).2.1)=(Gt.gateT (.node 4 v k l) nx cs).1 from(by first|(rw[hr];done)|(rw[hr,hil];done)|(rw[hk]at hr;rw[hr,hil];done)|done))) [true,false,true,true] (q1g (congrArg some (congrArg q0d.box (q0f rfl (q0f (congrArg AV.int (show(((Gt.gateL (l.take i) nx cs).2.1)+1)=(Gt.gateT (.node 4 v k l) nx cs).2.1 from(by first|(rw[hr];done)|(rw[hr,hil];done)|(rw[hk]at hr;rw[hr,hil];done)))) rfl)))) (q1g rfl (q1g rfl (q1g (congrArg some (congrArg (fun x=>q0d.row 57 (.lins x)) (show(((Gt.gateL (l.take i) nx cs).2.2)++Gt.freshG ((l.length:Nat):Int) ((Gt.gateL (l.take i) nx cs).1) ((Gt.gateL (l.take i) nx cs).2.1))=(Gt.gateT (.node 4 v k l) nx cs).2.2 from(by first|(rw[hr];done)|(rw[hr,hil];done)|(rw[hk]at hr;rw[hr,hil];rfl))))) rfl)))))))))) fun hft=>Pd (E':=[]) (H':=[]) 11 [0,0,2,6,14,0,32,126,0,510,0,2047,4095] [] [] [(True),65536<((Gt.gateL (l.take i) nx cs).2.1)] hcx hmx q7p (ap (by first|exact True.intro|exact m1 hk) (ap (by omega) az)) (Pf (by first|omega|(rw[hk]at hco;omega)|(rw[hk]at hco hft;omega)))))
       ·
        refine ap ?_ (ap ?_ az)<;>
         first|exact True.intro|exact⟨by omega,hbl,by omega,by omega,by omega,by omega,by omega⟩
      ·
       rw[hk]
       refine Zt (Zn [(0,.to 0),(2,.to 2),(701,.to 701),(700,.frz)] [29,0,3,5] (Kz (((Gt.gateL (l.take i) nx cs).2.1)≤65536) (fun hft=>Td hcx hmx [0,0,2,6,14,0,32,126,0,510,0,2047,4095] [(0,.to 0),(2,.to 2),(1011,.to 701)] [4] [29,0,3,5] [701] [(True),(((Gt.gateL (l.take i) nx cs).1).length≤4095∧(∀x∈((Gt.gateL (l.take i) nx cs).1),-65536≤x∧x≤65536)∧((Gt.gateL (l.take i) nx cs).2.2).length≤999999998∧1≤((Gt.gateL (l.take i) nx cs).2.1)∧((Gt.gateL (l.take i) nx cs).2.1)≤65536∧0≤(1:Int)∧(1:Int)≤1099511627776)] ?_ (Ft (Zr (Fn [(0,.to 0),(2,.to 2),(701,.to 3)] [4] (Rb (by first|omega|(rw[hk]at hco;omega)|(rw[hk]at hco hft;omega)) (Rv hcx (congrArg AV.int (show((Gt.gateL (l.take i) nx cs).2.1)=(Gt.gateT (.node 5 v k l) nx cs).1 from(by first|(rw[hr];done)|(rw[hr,hil];done)|(rw[hk]at hr;rw[hr,hil];done)|done))) [true,false,true,true] (q1g (congrArg some (congrArg q0d.box (q0f rfl (q0f (congrArg AV.int (show(((Gt.gateL (l.take i) nx cs).2.1)+1)=(Gt.gateT (.node 5 v k l) nx cs).2.1 from(by first|(rw[hr];done)|(rw[hr,hil];done)|(rw[hk]at hr;rw[hr,hil];done)))) rfl)))) (q1g rfl (q1g rfl (q1g (congrArg some (congrArg (fun x=>q0d.row 57 (.lins x)) (show(((Gt.gateL (l.take i) nx cs).2.2)++Gt.freshG (1:Int) ((Gt.gateL (l.take i) nx cs).1) ((Gt.gateL (l.take i) nx cs).2.1))=(Gt.gateT (.node 5 v k l) nx cs).2.2 from(by first|(rw[hr];done)|(rw[hr,hil];done)|(rw[hk]at hr;rw[hr,hil];rfl))))) rfl)))))))))) fun hft=>Pd (E':=[]) (H':=[]) 11 [0,0,2,6,14,0,32,126,0,510,0,2047,4095] [] [] [(True),65536<((Gt.gateL (l.take i) nx cs).2.1)] hcx hmx q7p (ap (by first|exact True.intro|exact m1 hk) (ap (by omega) az)) (Pf (by first|omega|(rw[hk]at hco;omega)|(rw[hk]at hco hft;omega)))))
       ·
        refine ap ?_ (ap ?_ az)<;>
         first|exact True.intro|exact⟨by omega,hbl,by omega,by omega,by omega,by omega,by omega⟩
      ·
       rw[hk]
       refine Zt (Zn [(0,.to 0),(2,.to 2),(701,.to 701),(700,.frz)] [29,0,3,5] (Kz (((Gt.gateL (l.take i) nx cs).2.1)≤65536) (fun hft=>Td hcx hmx [0,0,2,6,14,0,32,126,0,510,0,2047,4095] [(0,.to 0),(2,.to 2),(1011,.to 701)] [4] [29,0,3,5] [701] [(True),(((Gt.gateL (l.take i) nx cs).1).length≤4095∧(∀x∈((Gt.gateL (l.take i) nx cs).1),-65536≤x∧x≤65536)∧((Gt.gateL (l.take i) nx cs).2.2).length≤999999998∧1≤((Gt.gateL (l.take i) nx cs).2.1)∧((Gt.gateL (l.take i) nx cs).2.1)≤65536∧0≤k∧k≤1099511627776)] ?_ (Ft (Zr (Fn [(0,.to 0),(2,.to 2),(701,.to 3)] [4] (Rb (by first|omega|(rw[hk]at hco;omega)|(rw[hk]at hco hft;omega)) (Rv hcx (congrArg AV.int (show((Gt.gateL (l.take i) nx cs).2.1)=(Gt.gateT (.node 6 v k l) nx cs).1 from(by first|(rw[hr];done)|(rw[hr,hil];done)|(rw[hk]at hr;rw[hr,hil];done)|done))) [true,false,true,true] (q1g (congrArg some (congrArg q0d.box (q0f rfl (q0f (congrArg AV.int (show(((Gt.gateL (l.take i) nx cs).2.1)+1)=(Gt.gateT (.node 6 v k l) nx cs).2.1 from(by first|(rw[hr];done)|(rw[hr,hil];done)|(rw[hk]at hr;rw[hr,hil];done)))) rfl)))) (q1g rfl (q1g rfl (q1g (congrArg some (congrArg (fun x=>q0d.row 57 (.lins x)) (show(((Gt.gateL (l.take i) nx cs).2.2)++Gt.freshG k ((Gt.gateL (l.take i) nx cs).1) ((Gt.gateL (l.take i) nx cs).2.1))=(Gt.gateT (.node 6 v k l) nx cs).2.2 from(by first|(rw[hr];done)|(rw[hr,hil];done)|(rw[hk]at hr;rw[hr,hil];rfl))))) rfl)))))))))) fun hft=>Pd (E':=[]) (H':=[]) 11 [0,0,2,6,14,0,32,126,0,510,0,2047,4095] [] [] [(True),65536<((Gt.gateL (l.take i) nx cs).2.1)] hcx hmx q7p (ap (by first|exact True.intro|exact m1 hk) (ap (by omega) az)) (Pf (by first|omega|(rw[hk]at hco;omega)|(rw[hk]at hco hft;omega)))))
       ·
        refine ap ?_ (ap ?_ az)<;>
         first|exact True.intro|exact⟨by omega,hbl,by omega,by omega,by omega,by omega,by omega⟩
 ·
  cases hσ
theorem x9h:∀nn,q0c Tryz.prog 39 (nrm (q6j nn))∧q3v Tryz.prog 39 (pnk (q6j nn)) (pan x2o):=j7l (fn:=Tryz.f39) Tryz.func39 (by kernel_rfl) rfl (fun args os p fit r outs hσ hp=>by
 unfold q6j at hσ
 split at hσ
 ·cases hσ;exact absurd hp.2.2.2.2 (Qp3 _)
 ·cases hσ) x8p
def j5a:CtB
 |[.loc 0 0,.agg [.im (.val (.int .i64 q)),.im (.val (.int .i64 v)),.im (.val (.int .i64 k)),.im (.ls (.trees l))]],[.box [.row 1,.im (.val (.int .i64 nx)),.row 2],.row 57 (.lins cs),.mfun [1,4,5,6] [.clo 62 [],.clo 63 [],.clo 61 [],.clo 64 []]]=>some ((Gt.fitT 65536 (.node q v k l)∧1≤nx∧nx≤65537∧(cs.length:Int)+2*(65537-nx)≤1000000000),nx+((Gt.cntT (.node q v k l)):Nat)≤65537,.int ((Gt.gateT (.node q v k l) nx cs).1),[some (.box [.row 3,.int ((Gt.gateT (.node q v k l) nx cs).2.1),.row 2]),none,some (.mfun [1,4,5,6] [.clo 62 [],.clo 63 [],.clo 61 [],.clo 64 []]),some (.row 57 (.lins ((Gt.gateT (.node q v k l) nx cs).2.2)))])
 |_,_=>none
theorem j0x:q0c Tryz.prog 39 (nrm j5a)∧q3v Tryz.prog 39 (pnk j5a) (pan x2o):=k8c x9h (fun args os p fit r outs hσ hp=>by
 unfold j5a at hσ
 split at hσ
 ·rename_i q v k l nx cs
  cases hσ
  exact⟨Fl.q0p l+1,_,rfl,hp.1,hp.2.1,hp.2.2.1,hp.2.2.2,Qk9 _⟩
 ·cases hσ)
end Go.Proofs.YteikjpbbhopkaaaGreatDoor.En
