/- Lemmas and contracts for the row. -/
import Derived.Test.YteikjpbbhopkaaaGreatDoorPkRowElimGatesAE
import Derived.Test.YteikjpbbhopkaaaGreatDoorPkRowElimGatesQ
import Derived.Test.YteikjpbbhopkaaaGreatDoorPkRowElimGatesAF
import Derived.Test.YteikjpbbhopkaaaGreatDoorPkRowElimGatesAL
set_option linter.unusedVariables false
set_option linter.unusedSimpArgs false
set_option linter.unnecessarySimpa false
namespace Go.Proofs.YteikjpbbhopkaaaGreatDoor.En
open Go Go.RowKit
def x9k:ItF
 |[.pto [.ls (.intss c)],.pto [.val (.int .i64 x)]]=>some (c.length≤maxLen∧(∀l∈c,l.length≤maxLen)∧-65536≤x∧x≤65536,(Cn.q0l c x).length,fun i=>[.ints ((Cn.q0l c x).getD i [])])
 |_=>none
theorem x5c {G:Nat→Prop} {W:World} (hG:∀b,G b→b<W.heap.size) (hgl:j2i (g0 W G)) {l:List Int} {v:Value} {y:Int} (hl:l.length≤maxLen) (hv:Den (g0 W G) (.ints l) v):
 CallsIn (FR none) 2 Tryz.prog 22 #[v,I64 y] W fun e W'=>e=.returned (.bool (l.contains y))∧Below W.heap.size W W':=by
 have h:=q3y.callsG hG hgl (args:=[.ints l,.int y]) (vs:=[v,I64 y]) rfl hl (by simp only[q0e];exact⟨_,_,rfl,hv,_,_,rfl,.val _,rfl⟩)
 refine q2p.2 (Calls.mono h fun e w' he=>?_)
 obtain⟨u,rfl,hb,g',_,_,hd⟩:=he
 rw[q0b hd]
 exact⟨rfl,hb⟩
set_option maxRecDepth 100000 in
set_option maxHeartbeats 1000000 in
theorem u8y {G:Nat→Prop} {W:World} (hG:∀b,G b→b<W.heap.size) (hgl:j2i (g0 W G)) (vv:Nat→Value) (c:List (List Int)) (A:Option Addr) (cp p1 o1 p2 o2:Nat) (x:Int)
 (h1:W.cell? ⟨p1,o1,none⟩=some (.slice A c.length cp)) (g1:G p1) (h2:W.cell? ⟨p2,o2,none⟩=some (I64 x)) (g2:G p2)
 (hA:∀k,k<c.length→∃b off,A=some ⟨b,off,none⟩∧G b∧W.cell? ⟨b,off+k,none⟩=some (vv k)) (hv:∀k,k<c.length→Den (g0 W G) (.ints (c.getD k [])) (vv k))
 (hl:c.length≤maxLen) (hll:∀l∈c,l.length≤maxLen) (hx1: -65536≤x) (hx2:x≤65536):
 u1p Tryz.prog 89 #[.pointer (some ⟨p1,o1,none⟩),.pointer (some ⟨p2,o2,none⟩)] (KRG G) (Cn.z3w c x c.length).length (fun j=> #[vv ((Cn.z3w c x c.length).getD j 0)]) W:=by
 intro l J Jx Z W1 hKR hJs hJxs hY h0
 unfold maxLen at hl
 have HC1:=Lib.hid (fun(W':World) (h:KRG G W W')=>(World.cell?_of_block (a:=⟨p1,o1,none⟩) (h p1 g1)).trans h1)
 have HC2:=Lib.hid (fun(W':World) (h:KRG G W W')=>(World.cell?_of_block (a:=⟨p2,o2,none⟩) (h p2 g2)).trans h2)
 have HA:=Lib.hid (fun k (hk:k<c.length) (W':World) (h:KRG G W W')=>by
  obtain⟨b,off,e,hb,hc⟩:=hA k hk
  exact(⟨b,off,e,(World.cell?_of_block (a:=⟨b,off+k,none⟩) (h b hb)).trans hc⟩:∃b off,A=some ⟨b,off,none⟩∧W'.cell? ⟨b,off+k,none⟩=some (vv k)))
 have HCN:=Lib.hid (fun k (hk:k<c.length) (y:Int) (W':World) (h:KRG G W W')=>
  x5c (G:=G) (W:=W') (y:=y) (z8i hG h) (hgl.up (u0n h)) (hll _ (Cn.q0t hk)) (Den.mono (u0n h) _ _ (hv k hk)))
 have HJ:=Lib.hid hJs
 have HY:=Lib.hid hY
 have HG:=Lib.hid hG
 have HK:=Lib.hid hKR
 have H0:=Lib.hid h0
 clear h1 h2 hA hv hll hgl hJs hY hG hJxs h0 hKR
 refine q2p.1 (callsIn_of_wp (F:=FR none) (n:=3) Tryz.func89 rfl trivial ?_ rfl)
 simp only[Tryz.ntmps89,Qi9,Qa8,Qb5,Nat.reduceAdd,Nat.reduceSub,Qo8,Qo7,Qq0,Qp0,Qg8,Qc9]
 have hro:(FR none).round=none:=rfl
 have hc1:=HC1.out W1 HK.out
 gi_wp2_with fail
 clear hc1
 gi_loopw [5,8] (fun _ kv wr=>∃(k:Nat) (Z:Nat→Prop),kv=.int .i64 k∧k≤c.length∧KRG G W wr∧J (Cn.z3w c x k).length Z wr) (fun _ kv _=>c.length-(intOf kv).toNat)
 case atStart=>exact⟨0,Z,rfl,Qc1 _,HK.out,H0.out⟩
 case round=>
  obtain⟨k,Z2,rfl,hk,hkr,hj⟩:=hrel
  have HKR:=Lib.hid hkr
  have HJ2:=Lib.hid hj
  clear hkr hj
  by_cases hlt:k<c.length
  ·obtain⟨b,off,rfl,hcell⟩:=HA.out k hlt wr HKR.out
   have HCK:=Lib.hid (HCN.out k hlt)
   have HPA:=Lib.hid (fun h=>Cn.u1y (c:=c) (x:=x) (n:=c.length) hlt h)
   have HPS:=Lib.hid (Cn.z9r (c:=c) (x:=x) (k:=k))
   have HWP:=Lib.hid (show Cn.wP x (c.getD k [])=((c.getD k []).contains x&& !((c.getD k []).contains (-x)))from rfl)
   generalize c.getD k []=ck at HCK HPA HPS HWP
   have hc2:=HC2.out wr HKR.out
   have hng:wrap64 (-x)= -x:=by unfold wrap64;omega
   have next:∀(w2:World),Cn.wP x ck=false→KRG G W w2→(∃Z,J (Cn.z3w c x k).length Z w2)→∃(k':Nat) (Z:Nat→Prop),Value.int .i64 (k+1:Nat)=.int .i64 k'∧k'≤c.length∧KRG G W w2∧J (Cn.z3w c x k').length Z w2:=fun w2 h1 h2 ⟨Z,h3⟩=>by
    refine⟨k+1,Z,rfl,hlt,h2,?_⟩
    rw[HPS.out,h1,if_neg (by simp)];exact h3
   have HNX:=Lib.hid next
   clear next
   gi_wp2_with fail
   refine⟨trivial,(HCK.out x wr HKR.out).mono ?_⟩
   rintro e w2 ⟨rfl,hb2⟩
   have hk2:=y2g HKR.out (z8i HG.out HKR.out) hb2
   have HK2:=Lib.hid hk2
   have HJ3:=Lib.hid (HJ.out _ _ _ _ HJ2.out (u9v hb2 Z2))
   have hc3:=HC2.out w2 hk2
   clear hb2 hk2 hc2
   cases hB1:ck.contains x with
   |false=>
    have HNO:=Lib.hid (show Cn.wP x ck=false by rw[HWP.out,hB1];rfl)
    clear hB1
    gi_wp2_with fail
    refine⟨trivial,?_⟩
    gi_wp2_with fail
    refine⟨fun f hf=>(by cases hf),?_⟩
    gi_wp2_with fail
    go_roundw
    case rel=>exact HNX.out _ HNO.out HK2.out ⟨_,HJ3.out⟩
    case measure=>simp[intOf];omega
   |true=>
    gi_wp2_with fail
    refine⟨trivial,(HCK.out (-x) w2 HK2.out).mono ?_⟩
    rintro e w3 ⟨rfl,hb3⟩
    have HK3:=Lib.hid (y2g HK2.out (z8i HG.out HK2.out) hb3)
    have HJ4:=Lib.hid (HJ.out _ _ _ _ HJ3.out (u9v hb3 _))
    clear hb3
    cases hB2:ck.contains (-x)with
    |true=>
     have HNO:=Lib.hid (show Cn.wP x ck=false by rw[HWP.out,hB1,hB2];rfl)
     clear hB1 hB2
     gi_wp2_with fail
     refine⟨fun f hf=>(by cases hf),?_⟩
     gi_wp2_with fail
     go_roundw
     case rel=>exact HNX.out _ HNO.out HK3.out ⟨_,HJ4.out⟩
     case measure=>simp[intOf];omega
    |false=>
     have HYS:=Lib.hid (show Cn.wP x ck=true by rw[HWP.out,hB1,hB2];rfl)
     clear hB1 hB2
     obtain⟨hlt2,hat⟩:=HPA.out HYS.out
     have hyy:=HY.out _ _ w3 hlt2 HJ4.out
     rw[hat]at hyy
     obtain⟨fn,tmps,assign,body,hy,hR⟩:=hyy
     have HLEN:=Lib.hid (show(Cn.z3w c x (k+1)).length=(Cn.z3w c x k).length+1 by rw[HPS.out,HYS.out,if_pos rfl];simp)
     clear hlt2 hat
     gi_wp2_with fail
     refine hR.mono ?_
     rintro e w4 ⟨⟨rfl,hj4⟩|⟨rfl,hjx⟩,hk4,hz4,hs4⟩
     ·have HK4:=Lib.hid (k9o HK3.out hk4)
      have HJ5:=Lib.hid hj4
      clear hj4 hk4 hz4 hs4
      gi_wp2_with fail
      go_roundw
      case rel=>exact⟨k+1,_,rfl,hlt,HK4.out,by rw[HLEN.out];exact HJ5.out⟩
      case measure=>simp[intOf];omega
     ·have HJX:=Lib.hid hjx
      clear hjx hk4 hz4 hs4
      gi_wp2_with fail
      refine bodyPost_ret (results_none rfl _ _ _) rfl ?_
      exact⟨⟨_,rfl⟩,.inr ⟨_,_,HJX.out⟩⟩
  ·obtain rfl:k=c.length:=by omega
   gi_wp2_with fail
   go_end0
   exact⟨⟨_,rfl⟩,.inl ⟨Z2,HJ2.out⟩⟩
theorem x0g:z2s Tryz.prog 89 x9k:=by
 refine⟨q0r Tryz.func89 (by kernel_rfl) rfl,fun W G caps vs p N el hG hgl hσ hp hd=>?_⟩
 unfold x9k at hσ
 split at hσ
 ·rename_i c x
  injection hσ with hσ
  injection hσ with h1 h2
  injection h2 with h2 h3
  subst h1 h2 h3
  obtain⟨hl,hll,hx1,hx2⟩:=hp
  simp only[q0e,Den]at hd
  obtain⟨v1,vs1,rfl,⟨p1,o1,rfl,g1,hc1⟩,v2,vs2,rfl,⟨p2,o2,rfl,g2,hc2⟩,rfl⟩:=hd
  obtain⟨u1,hu1,hr1⟩:=hc1 0 (.ls (.intss c)) rfl
  obtain⟨u2,hu2,hr2⟩:=hc2 0 (.val (.int .i64 x)) rfl
  have e2:u2=I64 x:=q0b (g:=g0 W G) (by simp only[Den];exact hr2)
  subst e2
  have key:∃(A:Option Addr) (cp:Nat) (vv:Nat→Value),u1=.slice A c.length cp∧(∀k,k<c.length→∃b off,A=some ⟨b,off,none⟩∧G b∧W.cell? ⟨b,off+k,none⟩=some (vv k))∧∀k,k<c.length→Den (g0 W G) (.ints (c.getD k [])) (vv k):=by
   rcases hr1.cases_ls with⟨h0,A,cp,rfl⟩|⟨b,off,cp,u,rfl,_,_,hb,hcell,hrep⟩
   ·have h0':c.length=0:=h0
    exact⟨A,cp,fun _=>undef,by rw[h0'],fun k hk=>by omega,fun k hk=>by omega⟩
   ·refine⟨_,cp,fun i=>u i 0,rfl,fun k hk=>⟨b,off,rfl,hb,?_⟩,fun k hk=>?_⟩
    ·have h1:W.cell? ⟨b,off+k*1+0,none⟩=some (u k 0):=hcell k 0 hk Nat.one_pos
     rwa [Qf6,Qd9]at h1
    ·simp only[Den];exact hrep k 0 hk Nat.one_pos
  obtain⟨A,cp,vv,rfl,hA,hv⟩:=key
  refine⟨fun j=> #[vv ((Cn.z3w c x c.length).getD j 0)],fun i hi=>?_,?_⟩
  ·simp only[q0e]
   refine⟨_,_,rfl,?_,rfl⟩
   rw[Cn.k0r hi]
   exact hv _ (Cn.u3v (by rwa [←Cn.y1i]))
  ·rw[Cn.y1i]
   exact u8y hG hgl vv c A cp p1 o1 p2 o2 x hu1 g1 hu2 g2 hA hv hl hll hx1 hx2
 ·cases hσ
end Go.Proofs.YteikjpbbhopkaaaGreatDoor.En
namespace Go.Proofs.YteikjpbbhopkaaaGreatDoor.En
open Go Go.RowKit
def j1l:List (Nat×TD):=[(3,⟨1,false,[.int .i64 0],[],none,8,false,1,1⟩),
 (4,⟨1,false,[.bool false],[],none,1,true,0,2⟩),
 (31,⟨1,false,[.slice none 0 0],[],some 34,24,false,0,0⟩),
 (34,⟨1,false,[.slice none 0 0],[],some 3,24,false,0,3⟩),
 (37,⟨1,false,[.slice none 0 0],[],some 46,24,false,0,0⟩),
 (40,⟨1,false,[.slice none 0 0],[],some 4,24,false,0,0⟩),
 (46,⟨2,true,[.int .i64 0,.slice none 0 0],[(0,3),(1,31)],none,32,false,0,6⟩),
 (65,⟨1,false,[.nilFunc],[],none,8,false,0,0⟩)]
theorem q9k:q5u Tryz.prog j1l:=⟨⟨by kernel_rfl,by kernel_rfl,by kernel_rfl⟩,⟨by kernel_rfl,by kernel_rfl,by kernel_rfl⟩,⟨by kernel_rfl,by kernel_rfl,by kernel_rfl⟩,⟨by kernel_rfl,by kernel_rfl,by kernel_rfl⟩,⟨by kernel_rfl,by kernel_rfl,by kernel_rfl⟩,⟨by kernel_rfl,by kernel_rfl,by kernel_rfl⟩,⟨by kernel_rfl,by kernel_rfl,by kernel_rfl⟩,⟨by kernel_rfl,by kernel_rfl,by kernel_rfl⟩,trivial⟩
def y2s:Cx:=⟨j1l,[(33,(q1j [.ld (.ints []),.ld (.bools [])] z5o))],false⟩
theorem j8d:q1c Tryz.prog y2s:=q0s q9k ⟨(z5e.coe [.ld (.ints []),.ld (.bools [])] rfl),trivial⟩
def j7f:CtF
 |[.im (.ls (.ints l)),.pto [.ls (.bools a)]],[]=>some (l.length≤maxLen∧a.length≤maxLen,.bool (!(Cn.holdsV a l)),[])
 |_,_=>none
theorem y2x:q0c Tryz.prog 32 j7f:=by
 refine Sw (cx:=y2s) Tryz.f32 Tryz.func32 ?_
 intro wW wO wβ G0 args os p r outs hσ hp
 have hcx:=j8d
 unfold j7f at hσ
 split at hσ
 ·
  rename_i l a
  cases hσ
  refine⟨by kernel_rfl,?_⟩
  exact Sz hcx [] [] [] [] (Sq hcx [] [3] [0,1] [] [(l.length≤maxLen∧a.length≤maxLen)] (ap (by exact hp) az) (Zr (Ru hcx [])))
 ·
  cases hσ
def y1f:Cx:=⟨j1l,[(32,(q1j [.ld (.ints []),.id] j7f))],false⟩
theorem y2y:q1c Tryz.prog y1f:=q0s q9k ⟨(y2x.coe [.ld (.ints []),.id] rfl),trivial⟩
def j6n:CtF
 |[.im (.ls (.intss s)),.clo 32 [.pto [.ls (.bools a)]]],[]=>some (s.length≤maxLen∧(∀l∈s,l.length≤maxLen)∧a.length≤maxLen,.int (Cn.q5r (fun x=> !(Cn.holdsV a x)) s),[])
 |_,_=>none
theorem y1h:q0c Tryz.prog 50 j6n:=by
 refine Sw (cx:=y1f) Tryz.f50 Tryz.func50 ?_
 intro wW wO wβ G0 args os p r outs hσ hp
 have hcx:=y2y
 unfold j6n at hσ
 split at hσ
 ·
  rename_i s a
  cases hσ
  refine⟨by kernel_rfl,?_⟩
  obtain⟨hm1,hpr⟩:=hp
  unfold maxLen at hm1
  refine Sz hcx [] [] [] [] (Zs (Sz hcx [] [7,8] [] [] (Zb (Lp (X:=Nat) (fun x0=>x0≤s.length∧∀j,j<x0→(!(Cn.holdsV a (s.getD j [])))=false) (fun x0=>([(0,.intss s),(1,.clo 32 [.pto [.ls (.bools a)]]),(7,.int (s.length:Int)),(8,.int (x0:Int))],[])) (fun x0=>s.length-x0) (0) ?_ (Ex 8 (congrArg AV.int (show 0=(0:Int)from(by first|rfl|omega|(simp;done)))) Eb) Hb fun k hI=>?_))))
  ·
   exact⟨Qc1 _,fun j hj=>by omega⟩
  ·
   try dsimp only at hI
   obtain⟨hk,hok⟩:=hI
   refine Sz hcx [] [9] [] [] (Zs (Zj (p:=((k:Int)<(s.length:Int))) (fun h0=>?_) fun h0=>?_))
   ·
    refine Zk (Ft (Zs (Zb (Sz hcx [] [5] [9] [] (Sq hcx [] [16] [] [] [((0:Int)≤(k:Int)∧(k:Int)<(s.length:Int)),((s.getD k []).length≤maxLen∧a.length≤maxLen)] ?_ (Zi (b:= !(Cn.holdsV a (s.getD k []))) (fun h1=>?_) fun h1=>?_))))))
    ·
     refine ap ?_ (ap ?_ az)<;>
      first|omega|exact⟨hpr.1 _ (Cn.q0t (by omega)),hpr.2⟩
    ·
     have hq:=h1
     exact Sz hcx [] [4] [16,5,0,1,7,8] [] (Zr (Fk (Fr (Fr (Fk (Fr (Rv hcx (congrArg AV.int (show(k:Int)=(Cn.q5r (fun x=> !(Cn.holdsV a x)) s)from(by exact(Cn.q4r (p:=(fun x=> !(Cn.holdsV a x))) (by omega) hok hq).symm))) [] rfl)))))))
    ·
     have hq:=h1
     refine Zk (Fb (Ft (Tq hcx [] [8] [16,5] [] [Fit ((k:Int)+1)] ?_ (Lr (k+1) ?_ ?_ (Ex 8 (congrArg AV.int (show((k:Int)+1)=((k+1):Int)from(by first|rfl|omega|(simp;done)))) Eb) Hb))))
     ·
      refine ap ?_ az
      omega
     ·
      exact⟨by omega,Cn.q4a hok hq⟩
     ·
      show s.length-(k+1)<s.length-k
      omega
   ·
    exact Ze (Fe (Fe (Fs (Ft (Sz hcx [] [4] [9,0,1,7,8] [] (Zr (Rv hcx (congrArg AV.int (show(-1)=(Cn.q5r (fun x=> !(Cn.holdsV a x)) s)from(by exact(Cn.q6k (p:=(fun x=> !(Cn.holdsV a x))) (Cn.q7i (d:=[]) (fun j hj=>hok j (by omega)))).symm))) [] rfl)))))))
 ·
  cases hσ
def y1o:Cx:=⟨j1l,[(50,(orF (q1j [.ld (.intss []),.id] z2y) (q1j [.ld (.intss []),.id] j6n)))],false⟩
theorem y1p:q1c Tryz.prog y1o:=q0s q9k ⟨((z2e.coe [.ld (.intss []),.id] rfl).or (y1h.coe [.ld (.intss []),.id] rfl)),trivial⟩
def j3u:CtF
 |[.im (.ls (.intss s)),.clo 32 [.pto [.ls (.bools a)]]],[]=>some (s.length≤maxLen∧(∀l∈s,l.length≤maxLen)∧a.length≤maxLen,.bool (s.any (fun x=> !(Cn.holdsV a x))),[])
 |_,_=>none
theorem j8r:q0c Tryz.prog 23 j3u:=by
 refine Sw (cx:=y1o) Tryz.f23 Tryz.func23 ?_
 intro wW wO wβ G0 args os p r outs hσ hp
 have hcx:=y1p
 unfold j3u at hσ
 split at hσ
 ·
  rename_i s a
  cases hσ
  refine⟨by kernel_rfl,?_⟩
  refine Sz hcx [] [] [] [] (Sq hcx [] [4] [0,1] [] [(s.length≤maxLen∧(∀l∈s,l.length≤maxLen)∧a.length≤maxLen)] ?_ (Zr (Rv hcx (congrArg AV.bool (show(decide ((Cn.q5r (fun x=> !(Cn.holdsV a x)) s)≥0))=(s.any (fun x=> !(Cn.holdsV a x)))from(by exact Cn.q4q (p:=(fun x=> !(Cn.holdsV a x))) s))) [] rfl)))
  ·
   refine ap ?_ az
   exact hp
 ·
  cases hσ
def z4i:Cx:=⟨j1l,[],false⟩
theorem z9k:q1c Tryz.prog z4i:=q0s q9k trivial
def z1e:CtF
 |[.im (.ls (.undos u))],[]=>some (True,.clo 57 [.pto [.ls (.undos u)]],[])
 |_,_=>none
theorem z9f:q0c Tryz.prog 31 z1e:=by
 refine Sw (cx:=z4i) Tryz.f31 Tryz.func31 ?_
 intro wW wO wβ G0 args os p r outs hσ hp
 have hcx:=z9k
 unfold z1e at hσ
 split at hσ
 ·
  rename_i u
  cases hσ
  refine⟨by kernel_rfl,?_⟩
  exact Sz hcx [(1000,.frz)] [1] [0] [] (Sz hcx [] [2] [1] [] (Zr (Ru hcx [])))
 ·
  cases hσ
def x1h:Cx:=⟨j1l,[(23,(orF (q1j [.ld (.intss []),.id] z1q) (q1j [.ld (.intss []),.id] j3u))),(30,y4d),(31,(q1j [.ld (.undos [])] z1e))],false⟩
theorem y5t:q1c Tryz.prog x1h:=q0s q9k ⟨((z2g.coe [.ld (.intss []),.id] rfl).or (j8r.coe [.ld (.intss []),.id] rfl)),j4h,(z9f.coe [.ld (.undos [])] rfl),trivial⟩
def y5b:CtF
 |[.im (.ls (.undos u)),.im (.ls (.bools a))],[]=>some (u.length≤maxLen∧(∀w∈u,w.2.length≤maxLen∧∀l∈w.2,l.length≤maxLen)∧a.length≤1000000,.row 0,[some (.row 4 (.bools (Cn.q3h u a)))])
 |_,_=>none
theorem y3k:q0c Tryz.prog 13 y5b:=by
 refine Sw (cx:=x1h) Tryz.f13 Tryz.func13 ?_
 intro wW wO wβ G0 args os p r outs hσ hp
 have hcx:=y5t
 have hmx:Tryz.prog.follows .mixedOrders=true:=by kernel_rfl
 unfold y5b at hσ
 split at hσ
 ·
  rename_i u a
  cases hσ
  refine⟨by kernel_rfl,?_⟩
  obtain⟨hm1,hm2,hm3⟩:=hp
  have hm4:∀k,k<u.length→(u.getD k (0,[])).2.length≤maxLen∧∀l∈(u.getD k (0,[])).2,l.length≤maxLen:=fun k hk=>hm2 _ (Cn.q0t hk)
  refine Sz hcx [(1000,.to 603)] [3,4] [1] [] (Sq hcx [(1001,.to 209),(603,.to 603)] [] [] [] [(a.length≤1000000000000)] ?_ (Zs (Sq hcx [] [11] [0] [] [(True)] ?_ (Zb ?_))))
  ·
   refine ap ?_ az
   omega
  ·
   refine ap ?_ az
   trivial
  refine z9b (ρ:=[(603,.to 0),(209,.to 209)]) (keys:=[11,3,4]) (E':=[(11,.clo 57 [.pto [.ls (.undos u)]]),(3,.loc 0 0),(4,.im (.val (.slice none 0 0)))]) (H':=[(0,.box [.row 209]),(209,.row 4 (.bools a))]) (by kernel_rfl) ?_
  refine Zt (Zn [(0,.to 0),(209,.to 10)] [3,4,11] (Zy [(3,.loc 0 0),(4,.im (.val (.slice none 0 0))),(11,.clo 57 [.pto [.ls (.undos u)]])] [(0,.box [.row 10]),(10,.row 4 (.bools a))] ?_))
  refine z9t (X:=Unit) rfl k7w (caps:=[.pto [.ls (.undos u)]]) (by kernel_rfl) (N:=u.length) (el:=fun p=>[.int ((u.length:Int)-1-(p:Int)),.agg [.int ((u.getD (u.length-1-p) (0,[])).1),.intss ((u.getD (u.length-1-p) (0,[])).2)]]) rfl (by kernel_rfl) ?_ 1 970 989 (by kernel_rfl) (fun p x0=>True) (fun p x0=>[(0,.box [.row 10]),(10,.row 4 (.bools (Cn.backTo u a p)))]) (fun p x0=>[(11,.clo 57 [.pto [.ls (.undos u)]]),(3,.loc 0 0),(4,.im (.val (.slice none 0 0))),(6,.loc 606 0)]) (fun p x0=>[(0,.box [.row 10]),(10,.row 4 (.bools (Cn.backTo u a p))),(606,.box [.int ((u.getD (u.length-1-p) (0,[])).1),.intss ((u.getD (u.length-1-p) (0,[])).2)])]) (()) ?_ ?_ (fun _ _=>rfl) (fun _ _ _=>by kernel_rfl) (fun _ _=>by kernel_rfl) ?_ ?_ ?_
  ·
   exact hm1
  ·
   show True
   trivial
  ·
   exact Hb
  ·
   intro Wr Or βr Gr l0 r0 p un hi0 hI0
   replace hI0:True:=hI0
   have hbl:=Cn.j0v (u:=u) (i:=p) hm3
   have hw4:=hm4 (u.length-1-p) (by omega)
   change Tri _ [(13,.agg [.int ((u.getD (u.length-1-p) (0,[])).1),.intss ((u.getD (u.length-1-p) (0,[])).2)]),(12,.int ((u.length:Int)-1-(p:Int))),(3,.loc 0 0),(4,.im (.val (.slice none 0 0))),(11,.clo 57 [.pto [.ls (.undos u)]])] [(970,.other l0 (.loop r0)),(0,.box [.row 10]),(10,.row 4 (.bools (Cn.backTo u a p)))] _ _
   refine Zt (Tz hcx [(1000,.to 606)] [6] [13,12] [] (Fn [(970,.to 970),(0,.to 0),(10,.to 10),(606,.to 606)] [3,4,6,11] ?_))
   refine q9z ?_ ?_
   ·
    exact Eb
   ·
    exact Hb
  ·
   intro Wr Or βr Gr l0 r0 p un hi0 hI0
   replace hI0:True:=hI0
   have hbl:=Cn.j0v (u:=u) (i:=p) hm3
   have hw4:=hm4 (u.length-1-p) (by omega)
   change Tri _ [(11,.clo 57 [.pto [.ls (.undos u)]]),(3,.loc 0 0),(4,.im (.val (.slice none 0 0))),(6,.loc 606 0)] [(970,.other l0 (.loop r0)),(0,.box [.row 10]),(10,.row 4 (.bools (Cn.backTo u a p))),(606,.box [.int ((u.getD (u.length-1-p) (0,[])).1),.intss ((u.getD (u.length-1-p) (0,[])).2)])] _ _
   refine Zt (Zb (Zs (Sq hcx [] [21] [11,4] [] [((!(decide ((u.getD (u.length-1-p) (0,[])).1<1)))=true→((!(decide ((u.getD (u.length-1-p) (0,[])).1<1)))=true)),((!(decide ((u.getD (u.length-1-p) (0,[])).1<1)))=true→((!(decide ((u.getD (u.length-1-p) (0,[])).1<1)))=true)),((decide ((u.getD (u.length-1-p) (0,[])).1<1))=false→(!(decide ((u.getD (u.length-1-p) (0,[])).1<1)))=true)] ?_ (Zi (b:=(decide ((u.getD (u.length-1-p) (0,[])).1<1))||(decide ((u.getD (u.length-1-p) (0,[])).1>65536))) (fun h0=>?_) fun h0=>?_))))
   ·
    refine ap ?_ (ap ?_ (ap (by exact q2j) az))<;>
     (first|omega|exact id|exact q2j|exact vcG|exact vcH|(intro _;omega)|exact(fun _ h=>h)|(intro h;simp at h;omega)|(simp only[Qa8,Qb5,Qa3,Qa9,Qb6,Qb1];omega)|(intro h;simp[h];done))
   ·
    try simp only[Qd2,Qc5,Qa2,Qd5,Qd1,Qe7,decide_eq_true_eq,decide_eq_false_iff_not,bne_iff_ne,bne_eq_false_iff_eq,beq_iff_eq,beq_eq_false_iff_ne]at h0
    refine Ze (Fe (Fs (Fn [(970,.to 970),(0,.to 0),(10,.to 10)] [] ?_)))
    refine q5l (()) ?_ ?_
    ·
     show True
     trivial
    ·
     exact Hx 10 (congrArg (fun x=>q0d.row 4 (.bools x)) (show(Cn.backTo u a p)=(Cn.backTo u a (p+1))from(by rw[Cn.z1k hi0];first|exact Cn.y3v (by omega)|exact Cn.k3v (by omega) (by omega)|exact Cn.u3i (by omega) (by omega)))) Hb
   ·
    try simp only[Qd2,Qc5,Qa2,Qd5,Qd1,Qe7,decide_eq_true_eq,decide_eq_false_iff_not,bne_iff_ne,bne_eq_false_iff_eq,beq_iff_eq,beq_eq_false_iff_ne]at h0
    refine Zk (Ft (Zs (Sq hcx [] [7] [21] [] [Fit ((u.getD (u.length-1-p) (0,[])).1+1),Fit (((u.getD (u.length-1-p) (0,[])).1+1)-((Cn.backTo u a p).length:Int))] ?_ (Sz hcx [] [29] [] [] (Zj (p:=((((u.getD (u.length-1-p) (0,[])).1+1)-((Cn.backTo u a p).length:Int))>0)) (fun h1=>?_) fun h1=>?_)))))
    ·
     refine ap ?_ (ap ?_ az)<;>
      omega
    ·
     refine Tq hcx [(0,.to 0),(1002,.to 10)] [] [29,7] [10] [((0:Int)≤(((u.getD (u.length-1-p) (0,[])).1+1)-((Cn.backTo u a p).length:Int))∧((Cn.backTo u a p).length+(((u.getD (u.length-1-p) (0,[])).1+1)-((Cn.backTo u a p).length:Int)).toNat)*1≤140737488355328)] ?_ (Ft (Sq hcx [(10,.to 10)] [] [] [] [((0:Int)≤(u.getD (u.length-1-p) (0,[])).1∧(u.getD (u.length-1-p) (0,[])).1<(((Cn.backTo u a p)++List.replicate (((u.getD (u.length-1-p) (0,[])).1+1)-((Cn.backTo u a p).length:Int)).toNat false).length:Int)),((((u.getD (u.length-1-p) (0,[])).1).toNat)<((Cn.backTo u a p)++List.replicate (((u.getD (u.length-1-p) (0,[])).1+1)-((Cn.backTo u a p).length:Int)).toNat false).length)] ?_ (Td hcx hmx [0,0,2,0,8,0,56,127,255] [(10,.to 10)] [] [3,6] [606] [(((u.getD (u.length-1-p) (0,[])).2).length≤maxLen∧(∀l∈((u.getD (u.length-1-p) (0,[])).2),l.length≤maxLen)∧(((Cn.backTo u a p)++List.replicate (((u.getD (u.length-1-p) (0,[])).1+1)-((Cn.backTo u a p).length:Int)).toNat false).set (((u.getD (u.length-1-p) (0,[])).1).toNat) false).length≤maxLen),((0:Int)≤(u.getD (u.length-1-p) (0,[])).1∧(u.getD (u.length-1-p) (0,[])).1<((((Cn.backTo u a p)++List.replicate (((u.getD (u.length-1-p) (0,[])).1+1)-((Cn.backTo u a p).length:Int)).toNat false).set (((u.getD (u.length-1-p) (0,[])).1).toNat) false).length:Int)),((((u.getD (u.length-1-p) (0,[])).1).toNat)<(((Cn.backTo u a p)++List.replicate (((u.getD (u.length-1-p) (0,[])).1+1)-((Cn.backTo u a p).length:Int)).toNat false).set (((u.getD (u.length-1-p) (0,[])).1).toNat) false).length)] ?_ (Fb (Fn [(970,.to 970),(0,.to 0),(10,.to 10)] [] ?_)))))
     ·
      refine ap ?_ az
      omega
     ·
      refine ap ?_ (ap ?_ az)<;>
       (simp only[Qb6,Qa3,Qb1];omega)
     ·
      refine ap ?_ (ap ?_ (ap ?_ az))<;>
       first|(simp only[Qb6,Qa3,Qb1];omega)|exact⟨hw4.1,hw4.2,by simp only[Qb6,Qa3,Qb1];unfold maxLen;omega⟩
     refine q5l (()) ?_ ?_
     ·
      show True
      trivial
     ·
      exact Hx 10 (congrArg (fun x=>q0d.row 4 (.bools x)) (show((((Cn.backTo u a p)++List.replicate (((u.getD (u.length-1-p) (0,[])).1+1)-((Cn.backTo u a p).length:Int)).toNat false).set (((u.getD (u.length-1-p) (0,[])).1).toNat) false).set (((u.getD (u.length-1-p) (0,[])).1).toNat) (((u.getD (u.length-1-p) (0,[])).2).any (fun x=> !(Cn.holdsV (((Cn.backTo u a p)++List.replicate (((u.getD (u.length-1-p) (0,[])).1+1)-((Cn.backTo u a p).length:Int)).toNat false).set (((u.getD (u.length-1-p) (0,[])).1).toNat) false) x))))=(Cn.backTo u a (p+1))from(by rw[Cn.z1k hi0];first|exact Cn.y3v (by omega)|exact Cn.k3v (by omega) (by omega)|exact Cn.u3i (by omega) (by omega)))) Hb
    ·
     refine Zk (Ft (Sq hcx [(10,.to 10)] [] [29,7] [] [((0:Int)≤(u.getD (u.length-1-p) (0,[])).1∧(u.getD (u.length-1-p) (0,[])).1<((Cn.backTo u a p).length:Int)),((((u.getD (u.length-1-p) (0,[])).1).toNat)<(Cn.backTo u a p).length)] ?_ (Td hcx hmx [0,0,2,0,8,0,56,127,255] [(10,.to 10)] [] [3,6] [606] [(((u.getD (u.length-1-p) (0,[])).2).length≤maxLen∧(∀l∈((u.getD (u.length-1-p) (0,[])).2),l.length≤maxLen)∧((Cn.backTo u a p).set (((u.getD (u.length-1-p) (0,[])).1).toNat) false).length≤maxLen),((0:Int)≤(u.getD (u.length-1-p) (0,[])).1∧(u.getD (u.length-1-p) (0,[])).1<(((Cn.backTo u a p).set (((u.getD (u.length-1-p) (0,[])).1).toNat) false).length:Int)),((((u.getD (u.length-1-p) (0,[])).1).toNat)<((Cn.backTo u a p).set (((u.getD (u.length-1-p) (0,[])).1).toNat) false).length)] ?_ (Fb (Fn [(970,.to 970),(0,.to 0),(10,.to 10)] [] ?_)))))
     ·
      refine ap ?_ (ap ?_ az)<;>
       omega
     ·
      refine ap ?_ (ap ?_ (ap ?_ az))<;>
       first|(simp only[Qb6,Qa3,Qb1];omega)|exact⟨hw4.1,hw4.2,by simp only[Qb6,Qa3,Qb1];unfold maxLen;omega⟩
     refine q5l (()) ?_ ?_
     ·
      show True
      trivial
     ·
      exact Hx 10 (congrArg (fun x=>q0d.row 4 (.bools x)) (show(((Cn.backTo u a p).set (((u.getD (u.length-1-p) (0,[])).1).toNat) false).set (((u.getD (u.length-1-p) (0,[])).1).toNat) (((u.getD (u.length-1-p) (0,[])).2).any (fun x=> !(Cn.holdsV ((Cn.backTo u a p).set (((u.getD (u.length-1-p) (0,[])).1).toNat) false) x))))=(Cn.backTo u a (p+1))from(by rw[Cn.z1k hi0];first|exact Cn.y3v (by omega)|exact Cn.k3v (by omega) (by omega)|exact Cn.u3i (by omega) (by omega)))) Hb
  ·
   intro D0 un hI0
   replace hI0:True:=hI0
   change Fin _ [(3,.loc 0 0),(4,.im (.val (.slice none 0 0))),(11,.clo 57 [.pto [.ls (.undos u)]])] [(989,.other D0 dfr),(0,.box [.row 10]),(10,.row 4 (.bools (Cn.backTo u a u.length)))] _ _
   exact Zf (Fb (Ft (Sz hcx [] [4] [3,11] [0] (Zr (Fn [(10,.to 0),(989,.to 989)] [4] (Fq [(4,.row 0)] [(0,.row 4 (.bools (Cn.backTo u a u.length))),(989,.other D0 dfr)] (q9m _ rfl [(989,D0)] rfl rfl ⟨rfl,trivial⟩ hcx (avs:=[.row 0]) (by kernel_rfl) rfl [true] (Eq.trans (show _=[some (.row 4 (.bools (Cn.backTo u a u.length)))]from by kernel_rfl) (q1g (congrArg some (congrArg (fun x=>q0d.row 4 (.bools x)) (show(Cn.backTo u a u.length)=(Cn.q3h u a)from(by exact Cn.x4a)))) rfl)))))))))
 ·
  cases hσ
end Go.Proofs.YteikjpbbhopkaaaGreatDoor.En
