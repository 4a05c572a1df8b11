/- Lemmas and contracts for the row. -/
import Derived.Test.YteikjpbbhopkaaaGreatDoorPkRowElimGatesAH
import Derived.Test.YteikjpbbhopkaaaGreatDoorPkRowElimGatesAR
import Derived.Test.YteikjpbbhopkaaaGreatDoorPkRowElimGatesAO
set_option linter.unusedVariables false
set_option linter.unusedSimpArgs false
set_option linter.unnecessarySimpa false
namespace Go.Proofs.YteikjpbbhopkaaaGreatDoor.En
open Go Go.RowKit
def k0p:List (Nat×TD):=[(3,⟨1,false,[.int .i64 0],[],none,8,false,1,1⟩),
 (22,⟨1,false,[.slice none 0 0],[],some 24,24,false,0,0⟩),
 (24,⟨4,true,[.int .i64 0,.int .i64 0,.int .i64 0,.slice none 0 0],[(0,3),(1,3),(2,3),(3,22)],none,48,false,0,4⟩),
 (26,⟨1,false,[.nilFunc],[],none,8,false,0,0⟩),
 (27,⟨1,false,[.slice none 0 0],[],some 57,24,false,0,0⟩),
 (28,⟨1,false,[.int .i64 0],[],none,8,false,1,1⟩),
 (34,⟨1,false,[.slice none 0 0],[],some 3,24,false,0,3⟩),
 (53,⟨2,true,[.slice none 0 0,.int .i64 0],[(0,27),(1,3)],none,32,false,0,0⟩),
 (57,⟨3,true,[.slice none 0 0,.slice none 0 0,.int .i64 0],[(0,34),(1,34),(2,3)],none,56,false,0,5⟩),
 (78,⟨1,false,[.pointer none],[],none,8,false,0,0⟩),
 (79,⟨1,false,[.map none],[],none,8,false,10,26⟩),
 (82,⟨3,true,[.slice none 0 0,.int .i64 0,.map none],[(0,53),(2,79)],none,40,false,0,0⟩),
 (84,⟨1,true,[.int .i64 0],[(0,28)],none,8,false,0,0⟩)]
theorem y0s:q5u Tryz.prog k0p:=⟨⟨by kernel_rfl,by kernel_rfl,by kernel_rfl⟩,⟨by kernel_rfl,by kernel_rfl,by kernel_rfl⟩,⟨by kernel_rfl,by kernel_rfl,by kernel_rfl⟩,⟨by kernel_rfl,by kernel_rfl,by kernel_rfl⟩,⟨by kernel_rfl,by kernel_rfl,by kernel_rfl⟩,⟨by kernel_rfl,by kernel_rfl,by kernel_rfl⟩,⟨by kernel_rfl,by kernel_rfl,by kernel_rfl⟩,⟨by kernel_rfl,by kernel_rfl,by kernel_rfl⟩,⟨by kernel_rfl,by kernel_rfl,by kernel_rfl⟩,⟨by kernel_rfl,by kernel_rfl,by kernel_rfl⟩,⟨by kernel_rfl,by kernel_rfl,by kernel_rfl⟩,⟨by kernel_rfl,by kernel_rfl,by kernel_rfl⟩,⟨by kernel_rfl,by kernel_rfl,by kernel_rfl⟩,trivial⟩
def y0z:Cx:=⟨k0p,[(35,q9s)],true⟩
theorem j8m:q1c Tryz.prog y0z:=q0s y0s ⟨q5x,trivial⟩
def z9g:Cx:=⟨k0p,[(37,(q1j [.agg [.id,.id,.id,.ld (.trees [])],.id] y4f)),(38,(q1j [.agg [.id,.id,.id,.ld (.trees [])]] y3o)),(39,(nrm j5a))],true⟩
theorem z4x:q1c Tryz.prog z9g:=q0s y0s ⟨(y4e.coe [.agg [.id,.id,.id,.ld (.trees [])],.id] rfl),(y7l.coe [.agg [.id,.id,.id,.ld (.trees [])]] rfl),j0x.1,trivial⟩
theorem v0v {ops:Array Oper} {Q:Exit→Act→World→Prop} {a:Act} {W:World} {ty0 ty1 ty2 ty3:TypeId} {p0 p1 p2 p3:String} {f0 f1 f2 f3} {x d0 d1 d2:Nat} {e:Int} (hx:a.tmps.getD x undef=.int .i64 e) (h0:d0<a.tmps.size) (h1:d1<a.tmps.size) (h2:d2<a.tmps.size) (n1:d0≠d1) (n2:d0≠d2) (n3:d1≠d2)
 (hq:∀a',a'.tmps.size=a.tmps.size→a'.defers=a.defers→(∀i,i≠d0→i≠d1→i≠d2→a'.tmps.getD i undef=a.tmps.getD i undef)→Q (.panic [{v:=x2p e,recovered:=false}]) a' W):
 wpListIn (FR none) 3 Tryz.prog ops Q [⟨some d0,.move (.tmp x),ty0,p0,f0,none⟩,⟨some d1,.build 84 #[(0,.tmp d0)],ty1,p1,f1,none⟩,⟨some d2,.makeInterface 84 (.tmp d1),ty2,p2,f2,none⟩,⟨none,.panic (.tmp d2),ty3,p3,f3,none⟩] a W:=by
 simp[wpListIn,go_sem,FR,Fence.wide,h0,h1,h2,hx]
 change Q (.panic [{v:=x2p e,recovered:=false}]) _ W
 exact hq _ (by simp) rfl fun i hi hj hk=>by simp[hi,hj,hk,Ne.symm hi,Ne.symm hj,Ne.symm hk]
def dM (v0 v1 v2:Value):Deferred:=⟨.fn (.func 36) #[v0,v1,v2],#[]⟩
theorem u2f {ops:Array Oper} {Q:Exit→Act→World→Prop} {a:Act} {W:World} {ty1 ty2:TypeId} {p1 p2:String} {f1 f2} {d:Nat} (h:d<a.tmps.size)
 (hq:∀a',a'.tmps.size=a.tmps.size→(∀i,i≠d→a'.tmps.getD i undef=a.tmps.getD i undef)→a'.defers=dM (a.tmps.getD 4 undef) (a.tmps.getD 5 undef) (a.tmps.getD 6 undef)::a.defers→Q .normal a' W):
 wpListIn (FR none) 3 Tryz.prog ops Q [⟨some d,.makeFunc (.func 36) #[] #[.tmp 4,.tmp 5,.tmp 6],ty1,p1,f1,none⟩,⟨none,.defer {callee:=.value (.tmp d),args:= #[],argTypes:= #[]},ty2,p2,f2,none⟩] a W:=by
 simp[wpListIn,go_sem,FR,Fence.wide,h]
 exact hq _ (by simp) (fun i hi=>by simp[hi,Ne.symm hi]) (by simp[dM])
theorem u7f (args:Array Value) (W:World):(callFunc 36 args).run Tryz.prog W=.ok (.enter 36 args) W:=q0r Tryz.func36 (by kernel_rfl) rfl args W
theorem u2w {i:Nat} {x x4 x5 x6:AV} (h:look i [(4,x4),(5,x5),(6,x6)]=some x):(i=4∧x4=x)∨(i=5∧x5=x)∨(i=6∧x6=x):=by
 rw[q1a,q1a,q1a]at h
 by_cases h4:i=4
 ·rw[if_pos h4]at h;cases h;exact .inl ⟨h4,rfl⟩
 ·rw[if_neg h4]at h
  by_cases h5:i=5
  ·rw[if_pos h5]at h;cases h;exact .inr (.inl ⟨h5,rfl⟩)
  ·rw[if_neg h5]at h
   by_cases h6:i=6
   ·rw[if_pos h6]at h;cases h;exact .inr (.inr ⟨h6,rfl⟩)
   ·rw[if_neg h6]at h;cases h
theorem y6w {wW:World} {wO:Nat→Prop} {wβ:Nat→Value} {GB G0:Nat→Prop} {w0:Base} {cx:Cx} {a:Act} {W:World} {e:Int} {x0 x1 x2 x3 r:AV} (hl:Lat w0 ⟨wW,wO,5,wβ,[dM (wβ 0) (wβ 1) (wβ 2)]⟩ G0 GB)
 (hs:Sim ⟨Tryz.prog,cx,⟨wW,wO,5,wβ,[dM (wβ 0) (wβ 1) (wβ 2)]⟩,GB,Tryz.f16.ntmps,none⟩ [(4,.loc 0 0),(5,.loc 1 0),(6,.loc 2 0)] [(0,.box [x0]),(1,.box [x1,x2]),(2,.box [x3])] a W) (hr:AV.tup [.ints [],.agg [.lins [],.int 0],.int e]=r):
 bodyPostM (FR none) 3 Tryz.prog Tryz.f16 (Post w0 G0 r []) (.panic [{v:=x2p e,recovered:=false}]) a W:=by
 obtain⟨h1,h2,g,rfl,hU,hm,henv⟩:=hs
 show LeavesInM (FR none) 3 Tryz.prog Tryz.f16 a.tmps _ a.defers (.panicking _) g.W
 rw[h2]
 have hm3:=v2x hm (by decide) j9e x7s j9e
 have hd:∀i r:Nat,r<3→q1t [(4,.loc 0 0),(5,.loc 1 0),(6,.loc 2 0)] i=.loc r 0→∃b,wβ r=.pointer (some ⟨b,0,none⟩)∧a.tmps.getD i undef=wβ r∧g.β r=wβ r:=fun i r hr3 hi=>by
  have h9:=henv i
  change Den g (q1t [(4,.loc 0 0),(5,.loc 1 0),(6,.loc 2 0)] i) _ at h9
  rw[hi]at h9
  simp only[Den]at h9
  obtain⟨_,b,q1,q2⟩:=h9
  have q3:=(hm3.anc.1 r hr3).2
  change g.β r=wβ r at q3
  exact⟨b,q3▸q1,by rw[q2,←q1,q3],q3⟩
 obtain⟨b0,s0,t0,u0⟩:=hd 4 0 (by decide) rfl
 obtain⟨b1,s1,t1,u1⟩:=hd 5 1 (by decide) rfl
 obtain⟨b2,s2,t2,u2⟩:=hd 6 2 (by decide) rfl
 have dd:∀(g':Gh),(∀r,r<3→g'.U r∧g'.β r=wβ r)→∀(r b:Nat),r<3→wβ r=.pointer (some ⟨b,0,none⟩)→Den g' (.loc r 0) (wβ r):=fun g' h9 r b hr3 hb=>by
  simp only[Den]
  exact⟨(h9 r hr3).1,b,by rw[(h9 r hr3).2,hb],hb⟩
 refine⟨by simp,.inr ⟨fun hd=>(by cases hd),_,_,36,#[wβ 0,wβ 1,wβ 2],rfl,by simp[dM,invoke,u7f],fun _ _=>trivial,k5r (fun r hr=>hr) hm3 (dd _ hm3.anc.1 0 b0 (by decide) s0) (dd _ hm3.anc.1 1 b1 (by decide) s1) (dd _ hm3.anc.1 2 b2 (by decide) s2) e [] _ rfl fun g' hm'=>?_⟩⟩
 have hp0:∀(x:List AV),z3g x=true→∀vs,q0e g' x vs→q0e ⟨g'.W,g'.G,g'.β,fun r=>r<3⟩ x vs:=fun x hx vs h9=>q0e.pure (g:=g') (g':=⟨g'.W,g'.G,g'.β,fun r=>r<3⟩) rfl rfl _ _ hx h9
 have hm4:=v2x hm' (by decide) (hp0 _ rfl) (hp0 _ rfl) (hp0 _ rfl)
 show LeavesInM (FR none) 3 Tryz.prog Tryz.f16 a.tmps (Post w0 G0 r []) [] .returning g'.W
 have hl3:Lat w0 ⟨wW,wO,3,wβ,[]⟩ G0 GB:=⟨hl.sz,hl.O,hl.G,hl.bel,hl.m⟩
 have hcx:=z4x
 have h9:=(show Fg ⟨Tryz.prog,z9g,⟨wW,wO,3,wβ,[]⟩,GB,Tryz.f16.ntmps,none⟩ ([(4,.loc 0 0),(5,.loc 1 0),(6,.loc 2 0)],[(0,.box [u6k]),(1,.box [u6k,.int 0]),(2,.box [.int e])]) (bodyPostM (FR none) 3 Tryz.prog Tryz.f16 (Post ⟨wW,wO,3,wβ,[]⟩ GB r [])) .ret from
  Fv 0 0 700 3 (.ints []) (Fv 1 0 701 57 (.lins []) (Fn [(0,.to 0),(1,.to 1),(2,.to 2),(700,.frz),(701,.frz)] [4,5,6] (Rv hcx hr [] rfl)))) {a with defers:=[]} g'.W ⟨h1,rfl,⟨g'.W,g'.G,g'.β,fun r=>r<3⟩,rfl,fun r hr=>⟨Nat.lt_trans (show r<3 from hr) (by decide),.inl hr⟩,hm4,fun i=>?_⟩
 ·exact q2u (fun e w hp=>by
   obtain⟨u,g9,q1,q2,q3,q4⟩:=hp
   exact⟨u,g9,q1,q2,hl3.mok q3,q4⟩) [] _ _ h9
 ·show Den _ (q1t ([(4,.loc 0 0),(5,.loc 1 0),(6,.loc 2 0)]:Env) i) _
  unfold q1t
  cases hx:look i ([(4,.loc 0 0),(5,.loc 1 0),(6,.loc 2 0)]:Env)with
  |none=>trivial
  |some x=>
   rcases u2w hx with⟨rfl,rfl⟩|⟨rfl,rfl⟩|⟨rfl,rfl⟩
   ·show Den _ (.loc 0 0) (a.tmps.getD 4 undef);rw[t0];exact dd _ hm4.anc.1 0 b0 (by decide) s0
   ·show Den _ (.loc 1 0) (a.tmps.getD 5 undef);rw[t1];exact dd _ hm4.anc.1 1 b1 (by decide) s1
   ·show Den _ (.loc 2 0) (a.tmps.getD 6 undef);rw[t2];exact dd _ hm4.anc.1 2 b2 (by decide) s2
def y6l:CtF
 |[.im (.ls (.trees ts)),.im (.val (.int .i64 next))],[]=>some (ts.length=1∧Fl.q2b ts,.tup [.ints ((Gt.madeR next (ts.getD 0 q0a)).1),.agg [.lins ((Gt.madeR next (ts.getD 0 q0a)).2.1),.int ((Gt.madeR next (ts.getD 0 q0a)).2.2.1)],.int ((Gt.madeR next (ts.getD 0 q0a)).2.2.2)],[])
 |_,_=>none
set_option maxRecDepth 20000 in
set_option maxHeartbeats 4000000 in
theorem y4g:q0c Tryz.prog 16 y6l:=by
 refine Sw (cx:=y0z) Tryz.f16 Tryz.func16 ?_
 intro wW wO wβ G0 args os p r outs hσ hp
 have hcx:=j8m
 have hmx:Tryz.prog.follows .mixedOrders=true:=by kernel_rfl
 unfold y6l at hσ
 split at hσ
 ·
  rename_i ts next
  cases hσ
  refine⟨by kernel_rfl,?_⟩
  refine Sz hcx [(1000,.to 0),(1001,.to 1),(1002,.to 2)] [4,5,6] [] [] (Zs (Sq hcx [] [16] [] [] [((!(decide (next<1)))=true→((!(decide (next<1)))=true)),((decide (next<1))=false→(!(decide (next<1)))=true)] ?_ (Zi (b:=(decide (next<1))||(decide (next>65537))) (fun h0=>?_) fun h0=>?_)))
  ·
   refine ap ?_ (ap (by exact q2j) az)
   exact id
  ·
   try simp only[Qd2,Qc5,Qa2,Qd5,Qd1,Qe7,decide_eq_true_eq,decide_eq_false_iff_not,bne_iff_ne,bne_eq_false_iff_eq,beq_iff_eq,beq_eq_false_iff_ne]at h0
   exact Sd hcx hmx [0,0,3,7] [(0,.to 0),(1,.to 1),(2,.to 2)] [] [16,1] [] [] az (Zr (Fr (Fv 0 0 700 0 (.ints []) (Fv 1 0 701 0 (.lins []) (Fn [(0,.to 990),(1,.to 991),(2,.to 992),(700,.frz),(701,.frz)] [4,5,6] (Rv hcx (congrArg AV.tup (q0f (congrArg AV.ints (show[]=(Gt.madeR next (ts.getD 0 q0a)).1 from(by first|(rw[Gt.md_out (by omega)];done)|(rw[Gt.md_out (by omega)];rfl)))) (q0f (congrArg AV.agg (q0f (congrArg AV.lins (show[]=(Gt.madeR next (ts.getD 0 q0a)).2.1 from(by first|(rw[Gt.md_out (by omega)];done)|(rw[Gt.md_out (by omega)];rfl)))) (q0f (congrArg AV.int (show 0=(Gt.madeR next (ts.getD 0 q0a)).2.2.1 from(by first|(rw[Gt.md_out (by omega)];done)|(rw[Gt.md_out (by omega)];rfl)))) rfl))) (q0f (congrArg AV.int (show 1=(Gt.madeR next (ts.getD 0 q0a)).2.2.2 from(by first|(rw[Gt.md_out (by omega)];done)|(rw[Gt.md_out (by omega)];rfl)))) rfl)))) [] rfl))))))
  ·
   try simp only[Qd2,Qc5,Qa2,Qd5,Qd1,Qe7,decide_eq_true_eq,decide_eq_false_iff_not,bne_iff_ne,bne_eq_false_iff_eq,beq_iff_eq,beq_eq_false_iff_ne]at h0
   refine Zk (Ft (Sq hcx [(1004,.to 3),(1002,.to 4)] [7] [16] [] [(True)] ?_ (Zn [(0,.to 0),(1,.to 1),(2,.to 2),(3,.to 3),(4,.to 4)] [0,1,4,5,6,7] (Zy [(0,.trees ts),(1,.int next),(4,.loc 0 0),(5,.loc 1 0),(6,.loc 2 0),(7,.loc 3 0)] [(0,.box [.im (.val (.slice none 0 0))]),(1,.box [.im (.val (.slice none 0 0)),.int 0]),(2,.box [.int 0]),(3,.box [.im (.val (.slice none 0 0)),.int next,.row 4]),(4,.mfun [1,4,5,6] [.clo 62 [],.clo 63 [],.clo 61 [],.clo 64 []])] ?_))))
   ·
    refine ap ?_ az
    exact True.intro
   ·
    intro a W hs
    refine wpIn_seq (wpIn_region_list ?_)
    have hsz:a.tmps.size=Tryz.f16.ntmps:=hs.1
    refine u2f (by rw[hsz];decide) fun a' q1 q2 q3=>?_
    have hd4:=q2 4 (by decide)
    obtain⟨O9,β9,G9,hl,hs9,hv⟩:=x8k hs rfl 5 (fun r hr=>by rcases(by omega:r=0∨r=1∨r=2∨r=3∨r=4)with rfl|rfl|rfl|rfl|rfl<;>rfl) a' [dM (a.tmps.getD 4 undef) (a.tmps.getD 5 undef) (a.tmps.getD 6 undef)] (q1.trans hs.1) (by rw[q3,hs.2.1]) (fun i x hx=>q2 i (fun e=>by subst e;cases hx))
    rw[hv 4 0 rfl,hv 5 1 rfl,hv 6 2 rfl]at hl hs9
    refine(show Tg ⟨Tryz.prog,z9g,⟨W,O9,5,β9,[dM (β9 0) (β9 1) (β9 2)]⟩,G9,Tryz.f16.ntmps,none⟩ ([(0,.trees ts),(1,.int next),(4,.loc 0 0),(5,.loc 1 0),(6,.loc 2 0),(7,.loc 3 0)],[(0,.box [.im (.val (.slice none 0 0))]),(1,.box [.im (.val (.slice none 0 0)),.int 0]),(2,.box [.int 0]),(3,.box [.im (.val (.slice none 0 0)),.int next,.row 4]),(4,.mfun [1,4,5,6] [.clo 62 [],.clo 63 [],.clo 61 [],.clo 64 []])]) _ _ from ?_) a' W hs9
    clear hs9 hv hd4 q1 q2 q3 hs hsz
    have hcx:=z4x
    have hb:1≤next∧next≤65537:=by omega
    obtain⟨hm1,hm2⟩:=hp
    refine Zs (Sz hcx [] [24,25,26] [0,1,2,3] [] (Zb (Zv 0 0 700 3 (.ints []) (Zv 3 0 701 57 (.lins []) (Zn [(0,.to 0),(1,.to 1),(2,.to 2),(3,.to 3),(4,.to 4),(700,.to 700),(701,.to 701)] [4,5,6,7,24,25,26] (Lp (X:=Nat) (fun x0=>x0≤1∧(x0=1→Gt.chkW (next-1) (ts.getD 0 q0a).kind (ts.getD 0 q0a).v (ts.getD 0 q0a).k (ts.getD 0 q0a).l=0∧Gt.wideT (ts.getD 0 q0a)=false∧next+(Gt.cntT (ts.getD 0 q0a):Nat)≤65537)) (fun x0=>([(4,.loc 0 0),(5,.loc 1 0),(6,.loc 2 0),(7,.loc 3 0),(24,.trees ts),(25,.int (ts.length:Int)),(26,.int (x0:Int))],[(0,.box [.row 700]),(1,.box [.im (.val (.slice none 0 0)),.int 0]),(2,.box [.int 0]),(3,.box [.row 701,.int (Gt.mdN (ts.getD 0 q0a) next x0),.row 4]),(4,.mfun [1,4,5,6] [.clo 62 [],.clo 63 [],.clo 61 [],.clo 64 []]),(700,.row 3 (.ints (Gt.mdL (ts.getD 0 q0a) next x0))),(701,.row 57 (.lins (Gt.mdC (ts.getD 0 q0a) next x0)))])) (fun x0=>1-x0) (0) ?_ (Ex 26 (congrArg AV.int (show 0=(0:Int)from(by first|rfl|omega|(simp;done)))) Eb) (Hx 3 (o:=.box [.row 701,.int next,.row 4]) (o':=.box [.row 701,.int (Gt.mdN (ts.getD 0 q0a) next 0),.row 4]) (congrArg q0d.box (q0f rfl (q0f (congrArg AV.int (show next=(Gt.mdN (ts.getD 0 q0a) next 0)from(by first|rfl|omega|(simp;done)))) rfl))) Hb) fun i hI=>?_))))))
    ·
     exact⟨by omega,fun h=>(by omega)⟩
    ·
     try dsimp only at hI
     obtain⟨hI1,hI2⟩:=hI
     refine Sz hcx [] [27] [] [] (Zs (Zj (p:=((i:Int)<(ts.length:Int))) (fun h0=>?_) fun h0=>?_))
     ·
      have hi0:i=0:=by omega
      have he:(ts.getD 0 q0a)=(.node ((ts.getD i q0a).kind) ((ts.getD i q0a).v) ((ts.getD i q0a).k) ((ts.getD i q0a).l)):=by rw[hi0,Gt.eta]
      have hN:Gt.mdN (ts.getD 0 q0a) next i=next:=by rw[hi0];rfl
      have hC:(Gt.mdC (ts.getD 0 q0a) next i).length=0:=by rw[hi0];rfl
      have hL:(Gt.mdL (ts.getD 0 q0a) next i).length=0:=by rw[hi0];rfl
      have hln:=Fl.z8f hm2 (show i<ts.length by omega)
      refine Zk (Ft (Zs (Zb (Sq hcx [(1002,.to 609)] [9] [27] [] [((0:Int)≤(i:Int)∧(i:Int)<(ts.length:Int))] ?_ (Zs (Sd hcx hmx [0,0,2,6,14,30,62,127,255] [] [10] [] [] [Fit ((Gt.mdN (ts.getD 0 q0a) next i)-1),(((ts.getD i q0a).l).length≤2932031007317∧Fl.q2b ((ts.getD i q0a).l))] ?_ (Sz hcx [] [39] [] [] (Zi (b:=(Gt.chkW ((Gt.mdN (ts.getD 0 q0a) next i)-1) ((ts.getD i q0a).kind) ((ts.getD i q0a).v) ((ts.getD i q0a).k) ((ts.getD i q0a).l)) !=0) (fun h1=>?_) fun h1=>?_))))))))
      ·
       refine ap ?_ az
       omega
      ·
       refine ap ?_ (ap ?_ az)<;>
        omega
      ·
       (have hc:=Gt.md_chk (t:=(ts.getD 0 q0a)) hb (by have h9:=h1;rw[hN,hi0]at h9;simpa using h9);refine Zn [(0,.to 0),(1,.to 1),(2,.to 2)] [10,4,5,6] (Zy [(10,.int (Gt.chkW ((Gt.mdN (ts.getD 0 q0a) next i)-1) ((ts.getD i q0a).kind) ((ts.getD i q0a).v) ((ts.getD i q0a).k) ((ts.getD i q0a).l))),(4,.loc 0 0),(5,.loc 1 0),(6,.loc 2 0)] [(0,.box [.any]),(1,.box [.im (.val (.slice none 0 0)),.int 0]),(2,.box [.int 0])] ?_);intro a W hs;have hsz:a.tmps.size=Tryz.f16.ntmps:=hs.1;have h10:a.tmps.getD 10 undef=.int .i64 (Gt.chkW ((Gt.mdN (ts.getD 0 q0a) next i)-1) ((ts.getD i q0a).kind) ((ts.getD i q0a).v) ((ts.getD i q0a).k) ((ts.getD i q0a).l)):=Sim.int (S:=(_,_)) hs 10;refine wpIn_region_list ?_;exact v0v (a:=a) h10 (by rw[hsz];decide) (by rw[hsz];decide) (by rw[hsz];decide) (by decide) (by decide) (by decide) fun a9 q1 q2 q3=>y6w hl (hs.acts q1 q2 fun j x hx=>by rcases u2w hx with⟨rfl,rfl⟩|⟨rfl,rfl⟩|⟨rfl,rfl⟩<;>exact⟨rfl,q3 _ (by decide) (by decide) (by decide)⟩) (by rw[hc,hN,hi0]))
      ·
       have hc:Gt.chkW (next-1) (ts.getD i q0a).kind (ts.getD i q0a).v (ts.getD i q0a).k (ts.getD i q0a).l=0:=by have h9:=h1;rw[hN]at h9;simpa using h9
       refine Zk (Ft (Zs (Sq hcx [] [44] [39,10] [] [(((ts.getD i q0a).l).length≤2932031007317∧Fl.q2b ((ts.getD i q0a).l))] ?_ (Zi (b:=Gt.wideT (.node ((ts.getD i q0a).kind) ((ts.getD i q0a).v) ((ts.getD i q0a).k) ((ts.getD i q0a).l))) (fun h2=>?_) fun h2=>?_))))
       ·
        refine ap ?_ az
        omega
       ·
        (have hc2:=Gt.md_wide (t:=(ts.getD 0 q0a)) hb (by rw[←hi0];rw[hi0]at hc⊢;exact hc) (by have h9:=h2;rw[hi0]at h9;rw[←h9,Gt.eta]);refine Zn [(0,.to 0),(1,.to 1),(2,.to 2)] [4,5,6] (Zy [(4,.loc 0 0),(5,.loc 1 0),(6,.loc 2 0)] [(0,.box [.any]),(1,.box [.im (.val (.slice none 0 0)),.int 0]),(2,.box [.int 0])] ?_);intro a W hs;have hsz:a.tmps.size=Tryz.f16.ntmps:=hs.1;refine wpIn_region_list ?_;exact u9b (by rw[hsz];decide) (by rw[hsz];decide) (by decide) fun a9 q1 q2 q3=>y6w hl (hs.acts q1 q2 fun j x hx=>by rcases u2w hx with⟨rfl,rfl⟩|⟨rfl,rfl⟩|⟨rfl,rfl⟩<;>exact⟨rfl,q3 _ (by decide) (by decide)⟩) (by rw[hc2]))
       ·
        have hw:=h2
        have hft0:=Gt.md_fit hb hc hw
        refine Zk (Ft (Kz ((Gt.mdN (ts.getD 0 q0a) next i)+((Gt.cntT (.node ((ts.getD i q0a).kind) ((ts.getD i q0a).v) ((ts.getD i q0a).k) ((ts.getD i q0a).l))):Nat)≤65537) (fun hft=>Td hcx hmx [0,0,0,6,14,31,63] [(0,.to 0),(3,.to 3),(4,.to 4),(1005,.to 700),(1003,.to 701)] [] [44,9] [609,700,701] [((Gt.fitT 65536 (.node ((ts.getD i q0a).kind) ((ts.getD i q0a).v) ((ts.getD i q0a).k) ((ts.getD i q0a).l))∧1≤(Gt.mdN (ts.getD 0 q0a) next i)∧(Gt.mdN (ts.getD 0 q0a) next i)≤65537∧((Gt.mdC (ts.getD 0 q0a) next i).length:Int)+2*(65537-(Gt.mdN (ts.getD 0 q0a) next i))≤1000000000)∧(Gt.mdN (ts.getD 0 q0a) next i)+((Gt.cntT (.node ((ts.getD i q0a).kind) ((ts.getD i q0a).v) ((ts.getD i q0a).k) ((ts.getD i q0a).l))):Nat)≤65537),(((Gt.mdL (ts.getD 0 q0a) next i).length+[(Gt.gateT (.node ((ts.getD i q0a).kind) ((ts.getD i q0a).v) ((ts.getD i q0a).k) ((ts.getD i q0a).l)) (Gt.mdN (ts.getD 0 q0a) next i) (Gt.mdC (ts.getD 0 q0a) next i)).1].length)*8≤140737488355328)] ?_ (Fb (Ft (Tq hcx [] [26] [] [] [Fit ((i:Int)+1)] ?_ (Fn [(0,.to 0),(1,.to 1),(2,.to 2),(3,.to 3),(4,.to 4),(700,.to 700),(701,.to 701)] [4,5,6,7,24,25,26] (Lr (i+1) ?_ ?_ (Ex 26 (congrArg AV.int (show((i:Int)+1)=((i+1):Int)from(by first|rfl|omega|(simp;done)))) Eb) (Hx 3 (o:=.box [.row 701,.int ((Gt.gateT (.node ((ts.getD i q0a).kind) ((ts.getD i q0a).v) ((ts.getD i q0a).k) ((ts.getD i q0a).l)) (Gt.mdN (ts.getD 0 q0a) next i) (Gt.mdC (ts.getD 0 q0a) next i)).2.1),.row 4]) (o':=.box [.row 701,.int (Gt.mdN (ts.getD 0 q0a) next (i+1)),.row 4]) (congrArg q0d.box (q0f rfl (q0f (congrArg AV.int (show(Gt.gateT (.node ((ts.getD i q0a).kind) ((ts.getD i q0a).v) ((ts.getD i q0a).k) ((ts.getD i q0a).l)) (Gt.mdN (ts.getD 0 q0a) next i) (Gt.mdC (ts.getD 0 q0a) next i)).2.1=(Gt.mdN (ts.getD 0 q0a) next (i+1))from(by exact Gt.md_2 (by omega) he))) rfl))) (Hx 700 (congrArg (fun x=>q0d.row 3 (.ints x)) (show((Gt.mdL (ts.getD 0 q0a) next i)++[(Gt.gateT (.node ((ts.getD i q0a).kind) ((ts.getD i q0a).v) ((ts.getD i q0a).k) ((ts.getD i q0a).l)) (Gt.mdN (ts.getD 0 q0a) next i) (Gt.mdC (ts.getD 0 q0a) next i)).1])=(Gt.mdL (ts.getD 0 q0a) next (i+1))from(by exact Gt.md_1 (by omega) he))) (Hx 701 (congrArg (fun x=>q0d.row 57 (.lins x)) (show(Gt.gateT (.node ((ts.getD i q0a).kind) ((ts.getD i q0a).v) ((ts.getD i q0a).k) ((ts.getD i q0a).l)) (Gt.mdN (ts.getD 0 q0a) next i) (Gt.mdC (ts.getD 0 q0a) next i)).2.2=(Gt.mdC (ts.getD 0 q0a) next (i+1))from(by exact Gt.md_3 (by omega) he))) Hb))))))))) fun hft=>Pd (E':=[(4,.loc 0 0),(5,.loc 1 0),(6,.loc 2 0)]) (H':=[(0,.box [.any]),(1,.box [.im (.val (.slice none 0 0)),.int 0]),(2,.box [.int 0])]) 3 [0,0,0,6,14,31,63] [(0,.to 0),(1,.to 1),(2,.to 2)] [4,5,6] [((Gt.fitT 65536 (.node ((ts.getD i q0a).kind) ((ts.getD i q0a).v) ((ts.getD i q0a).k) ((ts.getD i q0a).l))∧1≤(Gt.mdN (ts.getD 0 q0a) next i)∧(Gt.mdN (ts.getD 0 q0a) next i)≤65537∧((Gt.mdC (ts.getD 0 q0a) next i).length:Int)+2*(65537-(Gt.mdN (ts.getD 0 q0a) next i))≤1000000000)∧¬((Gt.mdN (ts.getD 0 q0a) next i)+((Gt.cntT (.node ((ts.getD i q0a).kind) ((ts.getD i q0a).v) ((ts.getD i q0a).k) ((ts.getD i q0a).l))):Nat)≤65537))] hcx hmx j0x.2 (ap ⟨⟨hft0,by omega,by omega,by omega⟩,hft⟩ az) (fun a W hs=>y6w hl hs (by rw[Gt.md_full (t:=(ts.getD 0 q0a)) hb (by rw[←hi0];rw[hi0]at hc⊢;exact hc) (by rw[he];exact hw) (by rw[he];omega)]))))
        ·
         refine ap ?_ (ap ?_ az)<;>
          first|(simp only[Qa8,Qb5,Qa3,Qa9,Qb6,Qb1];omega)|exact⟨⟨hft0,by omega,by omega,by omega⟩,hft⟩
        ·
         refine ap ?_ az
         omega
        ·
         exact⟨by omega,fun _=>by rw[hi0]at hc;refine⟨hc,by rw[he];exact hw,by rw[he];omega⟩⟩
        ·
         show 1-(i+1)<1-i
         omega
     ·
      have hi1:i=1:=by omega
      obtain⟨hz1,hz2,hz3⟩:=hI2 hi1
      have hr:=Gt.md_ok (t:=(ts.getD 0 q0a)) hb hz1 hz2 hz3
      exact Ze (Fe (Fe (Fs (Ft (Sd hcx hmx [0,0,2,6,14,1,63,127] [(0,.to 0),(1,.to 1),(2,.to 2)] [] [27,7,24,25,26] [] [] az (Zr (Fn [(0,.to 990),(1,.to 991),(2,.to 992),(700,.frz),(701,.frz)] [4,5,6] (u1u hl rfl u7f (fun W n=>u4j _ _ _ W n) (Rv hcx (congrArg AV.tup (q0f (congrArg AV.ints (show(Gt.mdL (ts.getD 0 q0a) next i)=(Gt.madeR next (ts.getD 0 q0a)).1 from(by first|(rw[hr,hi1];done)|(rw[hr,hi1];rfl)|(rw[hr];done)))) (q0f (congrArg AV.agg (q0f (congrArg AV.lins (show(Gt.mdC (ts.getD 0 q0a) next i)=(Gt.madeR next (ts.getD 0 q0a)).2.1 from(by first|(rw[hr,hi1];done)|(rw[hr,hi1];rfl)|(rw[hr];done)))) (q0f (congrArg AV.int (show(Gt.mdN (ts.getD 0 q0a) next i)=(Gt.madeR next (ts.getD 0 q0a)).2.2.1 from(by first|(rw[hr,hi1];done)|(rw[hr,hi1];rfl)|(rw[hr];done)))) rfl))) (q0f (congrArg AV.int (show 0=(Gt.madeR next (ts.getD 0 q0a)).2.2.2 from(by first|(rw[hr,hi1];done)|(rw[hr,hi1];rfl)|(rw[hr];done)))) rfl)))) [] rfl)))))))))
 ·
  cases hσ
end Go.Proofs.YteikjpbbhopkaaaGreatDoor.En
namespace Go.Proofs.YteikjpbbhopkaaaGreatDoor.En
open Go Go.RowKit
def k9y:List (Nat×TD):=[(3,⟨1,false,[.int .i64 0],[],none,8,false,1,1⟩),
 (22,⟨1,false,[.slice none 0 0],[],some 24,24,false,0,0⟩),
 (24,⟨4,true,[.int .i64 0,.int .i64 0,.int .i64 0,.slice none 0 0],[(0,3),(1,3),(2,3),(3,22)],none,48,false,0,4⟩),
 (27,⟨1,false,[.slice none 0 0],[],some 57,24,false,0,0⟩),
 (28,⟨1,false,[.int .i64 0],[],none,8,false,1,1⟩),
 (34,⟨1,false,[.slice none 0 0],[],some 3,24,false,0,3⟩),
 (53,⟨2,true,[.slice none 0 0,.int .i64 0],[(0,27),(1,3)],none,32,false,0,0⟩),
 (57,⟨3,true,[.slice none 0 0,.slice none 0 0,.int .i64 0],[(0,34),(1,34),(2,3)],none,56,false,0,5⟩)]
theorem x5r:q5u Tryz.prog k9y:=⟨⟨by kernel_rfl,by kernel_rfl,by kernel_rfl⟩,⟨by kernel_rfl,by kernel_rfl,by kernel_rfl⟩,⟨by kernel_rfl,by kernel_rfl,by kernel_rfl⟩,⟨by kernel_rfl,by kernel_rfl,by kernel_rfl⟩,⟨by kernel_rfl,by kernel_rfl,by kernel_rfl⟩,⟨by kernel_rfl,by kernel_rfl,by kernel_rfl⟩,⟨by kernel_rfl,by kernel_rfl,by kernel_rfl⟩,⟨by kernel_rfl,by kernel_rfl,by kernel_rfl⟩,trivial⟩
def j9c:Cx:=⟨k9y,[(16,y6l)],true⟩
theorem j9t:q1c Tryz.prog j9c:=q0s x5r ⟨y4g,trivial⟩
def j7j:CtF
 |[.agg [.im (.val (.int .i64 q)),.im (.val (.int .i64 v)),.im (.val (.int .i64 k)),.im (.ls (.trees l))],.im (.val (.int .i64 next))],[]=>some (l.length≤2932031007317∧Fl.q2b l,.tup [.int ((Gt.gatesR next (.node q v k l)).1),.lins ((Gt.gatesR next (.node q v k l)).2.1),.int ((Gt.gatesR next (.node q v k l)).2.2.1),.int ((Gt.gatesR next (.node q v k l)).2.2.2)],[])
 |_,_=>none
theorem y2r:q0c Tryz.prog 6 j7j:=by
 refine Sw (cx:=j9c) Tryz.f6 Tryz.func6 ?_
 intro wW wO wβ G0 args os p r outs hσ hp
 have hcx:=j9t
 have hmx:Tryz.prog.follows .mixedOrders=true:=by kernel_rfl
 unfold j7j at hσ
 split at hσ
 ·
  rename_i q v k l next
  cases hσ
  refine⟨by kernel_rfl,?_⟩
  obtain⟨hm1,hm2⟩:=hp
  refine Sz hcx [(1000,.frz)] [2] [0] [] (Sq hcx [(1008,.to 609)] [7,8,9] [2,1] [] [([(Tree.node q v k l)].length=1∧Fl.q2b [(Tree.node q v k l)])] ?_ (Zs (Sz hcx [] [19] [] [] (Zi (b:=((Gt.madeR next ([(Tree.node q v k l)].getD 0 q0a)).2.2.2) !=0) (fun h0=>?_) fun h0=>?_))))
  ·
   refine ap ?_ az
   exact⟨rfl,⟨hm1,hm2⟩,trivial⟩
  ·
   have h19:(Gt.madeR next (.node q v k l)).2.2.2≠0:=by have h9:=h0;simpa using h9
   have hr:=Gt.ga_no h19
   exact Sz hcx [] [4,5,6,7] [19,8,9] [609] (Zr (Fr (Fp 5 (.lins []) (Rv hcx (congrArg AV.tup (q0f (congrArg AV.int (show 0=(Gt.gatesR next (.node q v k l)).1 from(by first|(rw[hr];done)|(rw[hr];rfl)|(rw[hr];exact h19)|done))) (q0f (congrArg AV.lins (show[]=(Gt.gatesR next (.node q v k l)).2.1 from(by first|(rw[hr];done)|(rw[hr];rfl)|(rw[hr];exact h19)|done))) (q0f (congrArg AV.int (show 0=(Gt.gatesR next (.node q v k l)).2.2.1 from(by first|(rw[hr];done)|(rw[hr];rfl)|(rw[hr];exact h19)|done))) (q0f (congrArg AV.int (show(Gt.madeR next ([(Tree.node q v k l)].getD 0 q0a)).2.2.2=(Gt.gatesR next (.node q v k l)).2.2.2 from(by first|(rw[hr];done)|(rw[hr];rfl)|(rw[hr];exact h19)|done))) rfl))))) [] rfl))))
  ·
   have h19:(Gt.madeR next (.node q v k l)).2.2.2=0:=by have h9:=h0;simpa using h9
   have hr:=Gt.ga_yes h19
   have h1_:=Gt.ma_one h19
   refine Zk (Ft (Sd hcx hmx [0,1,3,0,8,0,32,0,7,287,895,2047] [] [4,5,6,7] [19,8,9] [609] [((0:Int)≤0∧0<(((Gt.madeR next ([(Tree.node q v k l)].getD 0 q0a)).1).length:Int))] ?_ (Zr (Rv hcx (congrArg AV.tup (q0f (congrArg AV.int (show(((Gt.madeR next ([(Tree.node q v k l)].getD 0 q0a)).1).getD 0 0)=(Gt.gatesR next (.node q v k l)).1 from(by first|(rw[hr];done)|(rw[hr];rfl)|(rw[hr];exact h19)|done))) (q0f (congrArg AV.lins (show(Gt.madeR next ([(Tree.node q v k l)].getD 0 q0a)).2.1=(Gt.gatesR next (.node q v k l)).2.1 from(by first|(rw[hr];done)|(rw[hr];rfl)|(rw[hr];exact h19)|done))) (q0f (congrArg AV.int (show(Gt.madeR next ([(Tree.node q v k l)].getD 0 q0a)).2.2.1=(Gt.gatesR next (.node q v k l)).2.2.1 from(by first|(rw[hr];done)|(rw[hr];rfl)|(rw[hr];exact h19)|done))) (q0f (congrArg AV.int (show(Gt.madeR next ([(Tree.node q v k l)].getD 0 q0a)).2.2.2=(Gt.gatesR next (.node q v k l)).2.2.2 from(by first|(rw[hr];done)|(rw[hr];rfl)|(rw[hr];exact h19)|done))) rfl))))) [] rfl))))
   ·
    refine ap ?_ az
    exact⟨by decide,by show(0:Int)<((Gt.madeR next (.node q v k l)).1.length:Int);omega⟩
 ·
  cases hσ
end Go.Proofs.YteikjpbbhopkaaaGreatDoor.En
