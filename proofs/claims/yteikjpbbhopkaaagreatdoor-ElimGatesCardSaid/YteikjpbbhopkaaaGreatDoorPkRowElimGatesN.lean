/- Lemmas and contracts for the row. -/
import Derived.Test.YteikjpbbhopkaaaGreatDoorPkRowElimGatesM
import Derived.Test.YteikjpbbhopkaaaGreatDoorPkRowElimGatesF
set_option linter.unusedVariables false
set_option linter.unusedSimpArgs false
set_option linter.unnecessarySimpa false
namespace Go.Proofs.YteikjpbbhopkaaaGreatDoor
open Go.RowKit Go.Shelf
def z3o (w:World) (r:u7l) (e:Ending) (w':World):Prop:=
 match r with
 |.err c=>e=.returned (.tuple #[.slice none 0 0,.slice none 0 0,I64 0,I64 c])∧Below w.heap.size w w'
 |.ok bits cs after=>∃A cA C cC,e=.returned (.tuple #[.slice A bits.length cA,.slice C cs.length cC,I64 after,I64 0])∧bits.length≤cA∧cs.length≤cC∧
  Rd I64 (· <w'.heap.size) w' A bits∧RdL (· <w'.heap.size) w' C cs∧Below w.heap.size w w'∧
  Own w' 3 (.slice A bits.length cA) (bits.map I64)∧(∀b,(Value.slice A bits.length cA).ownBlock=some b→w.heap.size≤b)∧Bag w.heap.size w' (.slice C cs.length cC) cs
theorem TabAt.below {w w':World} (h:TabAt w) (hb:Below w.heap.size w w'):TabAt w':=fun j hj=>
 (hb.cell (World.block_lt_of_cell? w _ (h j hj))).trans (h j hj)
theorem q0y {fn:Func} {t u v x:Tmp} (h:fn.results= #[.tmp t,.tmp u,.tmp v,.tmp x]) (tmps:Array Value) (P:Program) (w:World):
 (results fn tmps).run P w=.ok (.tuple #[tmps.getD t undef,tmps.getD u undef,tmps.getD v undef,tmps.getD x undef]) w:=by simp[results,h]
set_option maxRecDepth 100000 in
set_option maxHeartbeats 3200000 in
theorem u3e (A L:Option Addr) (cA cL:Nat) (coef l:List Int) (next:Int) (w:World)
 (hg:next<1∨65537<next∨coef.length≠l.length):
 Calls Tryz.prog 110 #[.slice A coef.length cA,.slice L l.length cL,I64 next] w (z3o w (z1o coef l next)):=by
 have hr:Hid (z1o coef l next=.err 1):=by show _=_;rw[z1o,if_pos hg]
 have HG:=Lib.hid hg
 clear hg
 rcases HG.out with h|h|h
 ·go_enter Tryz.func110,Tryz.ntmps110
  go_wp2_with fail
  refine bodyPost_ret (q0y rfl _ _ _) rfl ?_
  rw[hr.out];exact⟨rfl,Below.refl _ _⟩
 ·by_cases h':next<1
  ·omega
  ·go_enter Tryz.func110,Tryz.ntmps110
   go_wp2_with fail
   refine bodyPost_ret (q0y rfl _ _ _) rfl ?_
   rw[hr.out];exact⟨rfl,Below.refl _ _⟩
 ·have hne:((coef.length:Int) !=(l.length:Int))=true:=by simp;omega
  clear h
  by_cases h1:next<1
  ·go_enter Tryz.func110,Tryz.ntmps110
   go_wp2_with fail
   refine bodyPost_ret (q0y rfl _ _ _) rfl ?_
   rw[hr.out];exact⟨rfl,Below.refl _ _⟩
  ·by_cases h2:65537<next
   ·go_enter Tryz.func110,Tryz.ntmps110
    go_wp2_with fail
    refine bodyPost_ret (q0y rfl _ _ _) rfl ?_
    rw[hr.out];exact⟨rfl,Below.refl _ _⟩
   ·go_enter Tryz.func110,Tryz.ntmps110
    go_wp2_with fail
    refine bodyPost_ret (q0y rfl _ _ _) rfl ?_
    rw[hr.out];exact⟨rfl,Below.refl _ _⟩
end Go.Proofs.YteikjpbbhopkaaaGreatDoor
namespace Go.Proofs.YteikjpbbhopkaaaGreatDoor
open Go.RowKit Go.Shelf
def x9s (w:World) (r:u1q) (e:Ending) (w':World):Prop:=
 match r with
 |.err c=>e=.returned (.tuple #[.slice none 0 0,I64 c])∧Below w.heap.size w w'
 |.ok cs=>∃C cC,e=.returned (.tuple #[.slice C cs.length cC,I64 0])∧cs.length≤cC∧RdL (· <w'.heap.size) w' C cs∧Below w.heap.size w w'∧Bag w.heap.size w' (.slice C cs.length cC) cs
theorem u4s (x:Int) (w:World):Calls Tryz.prog 128 #[I64 x] w fun e w'=>e=.returned (.bool (u4z x))∧w=w':=by
 by_cases h1:x< -65536
 ·have d1:decide (x< -65536)=true:=by simpa using h1
  go_enter Tryz.func128,Tryz.ntmps128
  go_wp2
  go_ret
  exact⟨by simp[u4z,d1],rfl⟩
 ·have d1:decide (x< -65536)=false:=by simpa using h1
  by_cases h2:65536<x
  ·have d2:decide (65536<x)=true:=by simpa using h2
   go_enter Tryz.func128,Tryz.ntmps128
   go_wp2
   go_ret
   exact⟨by simp[u4z,d2],rfl⟩
  ·have d2:decide (65536<x)=false:=by simpa using h2
   go_enter Tryz.func128,Tryz.ntmps128
   go_wp2
   go_ret
   exact⟨by simp[u4z,d1,d2],rfl⟩
def lcv (x:Int) (i t K:Nat):Bool:=x !=0&&(i==t||(decide (t<i)&& !K.testBit i))
theorem y0m (k j:Nat) (hk:k<9223372036854775808):(bits BinOp.and IntKind.i64 ((k:Int)/2^j) 1==0)= !k.testBit j:=by
 have e1:(k:Int)/2^j=((k/2^j:Nat):Int):=by simp
 have h2:k/2^j<9223372036854775808:=Nat.lt_of_le_of_lt (Nat.div_le_self _ _) hk
 have e2:=z6x (k/2^j) 1 h2 (by omega)
 rw[e1,show(1:Int)=((1:Nat):Int)from rfl,e2,Qp7,Qh8]
 rcases Qm3 (k/2^j)with h|h<;>rw[h]<;>decide
theorem j2v {wo wr w5:World} {cvv:Value} {o:Obj} {g2 o2 n cp2:Nat} (hg:∀g,cvv.ownBlock=some g→wo.heap.size≤g) (hb:Below wo.heap.size wo wr) (hg5:(wr.alloc o).grownBy w5 cvv.ownBlock) (hat:cvv.ownBlock=some g2∨g2=wr.heap.size+1):
 (∀g,(Value.slice (some ⟨g2,o2,none⟩) n cp2).ownBlock=some g→wo.heap.size≤g)∧Below wo.heap.size wo w5:=by
 refine⟨fun g e=>?_,?_⟩
 ·have e:g2=g:=by simpa[Value.ownBlock]using e
  subst e
  rcases hat with e|e
  ·exact hg _ e
  ·have:=hb.size
   omega
 ·exact(hb.alloc hb.size o).grown hg5 (Qc0 hb.size (by simp)) (fun g e=>hg g e)
theorem x8e {w wo wr:World} (h:Below w.heap.size w wo) (h':Below wo.heap.size wo wr):Below w.heap.size wo wr:=⟨h'.os,h'.tape,h'.output,h'.size,fun i hi=>h'.block i (Qc2 hi h.size)⟩
theorem u4a {E:Nat→Prop} {w:World} {v:Value} {ys:List Int} (h:Own w 3 v (ys.map I64)) (hE:∀g,v.ownBlock=some g→E g):Cl E w v ys:=by
 obtain⟨A,cap,e,h1,h2⟩:=h.rd
 exact⟨A,cap,e,h1,h2.mono (fun b hb=>⟨h.ty0 hb (by decide),hE b hb⟩)⟩
set_option maxRecDepth 100000 in
set_option maxHeartbeats 3200000 in
theorem x8m (A:Option Addr) (cA:Nat) (l:List Int) (k:Int) (w:World) (ha:Rd I64 (· <w.heap.size) w A l) (hT:TabAt w) (hll:l.length≤1000000000):
 Calls Tryz.prog 111 #[.slice A l.length cA,I64 k] w (x9s w (q3d l k)):=by
 obtain⟨i0,hi,hz0,hz1,hz2⟩:=info_parts q6a
 have HI:=Lib.hid (And.intro hi (And.intro hz0 (And.intro hz1 hz2)))
 obtain⟨j0,hj,hy0,hy1,hy2⟩:=info_parts j9q
 have HJ:=Lib.hid (And.intro hj (And.intro hy0 (And.intro hy1 hy2)))
 have hcf:=x8w 128 [] u4z A cA l w (enters_of Tryz.func128 (by kernel_rfl) rfl) (fun x _ n=>(u4s x _).mono fun _ _ ⟨h1,h2⟩=>⟨h1,n,h2.symm⟩) ha (by unfold maxLen;omega)
 have HCF:=Lib.hid hcf
 have HA:=Lib.hid ha
 have HT:=Lib.hid hT
 clear ha hT hi hz0 hz1 hz2 hj hy0 hy1 hy2 hcf
 by_cases hk0:k<0
 ·have hr:=Lib.hid (show q3d l k=.err 1 by rw[q3d,if_pos (.inl hk0)])
  go_enter Tryz.func111,Tryz.ntmps111
  go_wp2_with fail
  go_ret2
  rw[hr.out];exact⟨rfl,Below.refl _ _⟩
 ·by_cases hk1:4503599627370496<k
  ·have hr:=Lib.hid (show q3d l k=.err 1 by rw[q3d,if_pos (.inr (.inl hk1))])
   go_enter Tryz.func111,Tryz.ntmps111
   go_wp2_with fail
   go_ret2
   rw[hr.out];exact⟨rfl,Below.refl _ _⟩
  ·generalize hany:l.any u4z=b at HCF
   cases b
   ·by_cases hbig:60<l.length
    ·have hr:=Lib.hid (show q3d l k=.err 2 by rw[q3d,if_neg (by rw[hany];simp;omega),if_pos hbig])
     clear hany
     have d1:decide (k<0)=false:=by simp;omega
     have d2:decide (4503599627370496<k)=false:=by simp;omega
     go_enter Tryz.func111,Tryz.ntmps111
     go_wp2_with fail
     refine HCF.out.mono ?_
     rintro e w1 ⟨rfl,q1,hq1⟩
     have HQ1:=Lib.hid hq1
     clear hq1
     go_wp2_with fail
     go_ret2
     rw[hr.out,HQ1.out];exact⟨rfl,⟨rfl,rfl,rfl,Qb8 _,fun _ _=>rfl⟩⟩
    ·have hr:=Lib.hid (show q3d l k=.ok (q1x l k.toNat 64) by rw[q3d,if_neg (by rw[hany];simp;omega),if_neg hbig])
     clear hany
     have d1:decide (k<0)=false:=by simp;omega
     have d2:decide (4503599627370496<k)=false:=by simp;omega
     have d3:decide (60<(l.length:Int))=false:=by simp;omega
     obtain⟨K,rfl⟩:=Qi4 (show 0≤k by omega)
     rw[Int.toNat_natCast]at hr
     go_enter Tryz.func111,Tryz.ntmps111
     go_wp2_with fail
     refine HCF.out.mono ?_
     rintro e w1 ⟨rfl,q1,hq1⟩
     have HQ1:=Lib.hid hq1
     clear hq1
     go_wp2_with fail
     clear d1 d2 d3
     go_loopw [7,8] (fun ov nv wr=>∃j n:Nat,nv=.int .u64 n∧j≤64∧n=K/2^j*2^j∧Bag w.heap.size wr ov (q1x l K j)∧Below w.heap.size w wr) (fun _ nv _=>(intOf nv).toNat)
     case atStart=>exact⟨0,K,rfl,by omega,by simp,Bag.nil _ _,by rw[HQ1.out];exact⟨rfl,rfl,rfl,Qb8 _,fun _ _=>rfl⟩⟩
     case round=>
      obtain⟨j,n,rfl,hj,hn,hbag,hbel⟩:=hrel
      have hnc:n≤K:=by rw[hn];exact Nat.div_mul_le_self _ _
      have HN:=Lib.hid hn
      have HBag:=Lib.hid hbag
      have HBel:=Lib.hid hbel
      clear hn hbag hbel
      by_cases hn0:0<n
      ·have htz:=fun W hW=>u1r n (by omega) (by omega) W hW
       obtain⟨mm,hnt,ht64⟩:=Lib.ctzFrom_spec 64 n hn0 (by omega)
       rw[show Lib.ctzFrom 64 n=Lib.ctz 64 n by unfold Lib.ctz;rw[if_neg (by omega)]]at hnt ht64
       generalize Lib.ctz 64 n=t at htz hnt ht64
       obtain⟨f1,f2',f3,f4⟩:=j9i K j n t mm HN.out hnt
       have hfs:q1x l K (t+1)=q1x l K j++[j1f l K t l.length]:=by rw[z4o,if_pos f2',z5b l K j t f1 f3]
       have hand:bits BinOp.and IntKind.u64 (n:Int) ((n:Int)-1)=((n&&&(n-1):Nat):Int):=by
        rw[show(n:Int)-1=((n-1:Nat):Int) by omega]
        exact bits_and_u64_nat n (n-1) (by omega) (by omega)
       have hdec:n&&&(n-1)≤n-1:=Nat.and_le_right
       have HTZ:=Lib.hid htz
       have HFS:=Lib.hid hfs
       have HF4:=Lib.hid f4
       have HAND:=Lib.hid hand
       clear htz hnt f2' f3 f4 hfs hand
       go_wp2_with fail
       refine(HTZ.out _ (HT.out.below HBel.out)).mono ?_
       rintro e w4 ⟨rfl,rfl⟩
       go_wp2_with fail
       obtain⟨wo,rfl⟩:∃wo:World,wo=wr:=⟨_,rfl⟩
       go_loopw [10,42] (fun cvv iv wr=>∃i:Nat,iv=.int .i64 i∧i≤l.length∧Own wr 3 cvv ((j1f l K t i).map I64)∧(∀g,cvv.ownBlock=some g→wo.heap.size≤g)∧Below wo.heap.size wo wr) (fun _ iv _=>l.length-(intOf iv).toNat)
       case atStart=>exact⟨0,rfl,Qc1 _,Own.empty wo _,fun g h=>by simp[Value.ownBlock]at h;omega,(Below.refl _ _).alloc (Qb8 _) _⟩
       case round=>
        obtain⟨i,rfl,hi,hoc,hgc,hbc⟩:=hrel
        have HOc:=Lib.hid hoc
        have HGc:=Lib.hid hgc
        have HBc:=Lib.hid hbc
        have hcl:=y9x l K t i
        have HLc:=Lib.hid (show((j1f l K t i).map I64).length=(j1f l K t i).length by simp)
        clear hoc hgc hbc
        by_cases hlt:i<l.length
        ·obtain⟨ab,ao,rfl,_,ca⟩:=(show Rd I64 (· <w.heap.size) wr A l from(HA.out.below HBel.out).below (x8e HBel.out HBc.out)).at_ hlt
         have hsu:=k3n l K t i
         have hgd:l.getD i 0=l[i]:=by rw[Qa1,Qa0 hlt];rfl
         have hcd:j8w K l t i=lcv l[i] i t K:=by unfold j8w lcv;rw[hgd]
         rw[hgd]at hsu
         generalize l[i]=x at ca hsu hcd
         have HSu:=Lib.hid hsu
         have HCd:=Lib.hid hcd
         clear hsu hcd hgd
         by_cases h1:x=0
         ·have q1:(x !=0)=false:=by simpa using h1
          have HCv:=Lib.hid (show¬lcv x i t K=true by simp[lcv,h1])
          clear h1
          go_wp2_with fail
          go_roundw
          case rel=>exact⟨i+1,by go_num,by omega,by rw[HSu.out,if_neg (by rw[HCd.out];exact HCv.out),Qf5];exact HOc.out,HGc.out,HBc.out⟩
          case measure=>simp[intOf];omega
         ·have q1:(x !=0)=true:=by simpa using h1
          have H1:=Lib.hid h1
          clear h1
          by_cases h2:i=t
          ·have q2:((i:Int)==(t:Int))=true:=by simp;omega
           have HCv:=Lib.hid (show lcv x i t K=true by simp[lcv,h2,H1.out])
           have H2:=Lib.hid h2
           clear h2
           go_wp2_with (at_builtin;refine q3t _ rfl (.tmp 66) (.tmp 68) 34 rfl 3 i0 (.int .i64 0) 8 Tryz.underlying34 HI.out.1 HI.out.2.1 HI.out.2.2.1 HI.out.2.2.2 rfl _ ((j1f l K t i).map I64) _ HLc.out rfl (HOc.out.alloc _) ⟨wr.heap.size,0,none⟩ 1 (I64 x) rfl ?c1a rfl ?c2a ?c3a ?_)
           case c1a=>simp
           case c2a=>unfold maxLen;omega
           case c3a=>omega
           intro g2 o2 cp2 w5 hown5 hg5 hat5
           have hk5:=j2v (o2:=o2) (n:=(j1f l K t i).length+1) (cp2:=cp2) HGc.out HBc.out hg5 hat5
           have HOw5:=Lib.hid hown5
           have HK5:=Lib.hid hk5
           clear hown5 hg5 hat5 hk5
           go_wp2_with fail
           go_roundw
           case rel=>exact⟨i+1,by go_num,by omega,by rw[HSu.out,if_pos (by rw[HCd.out];exact HCv.out),Qd4];exact HOw5.out,HK5.out.1,HK5.out.2⟩
           case measure=>simp[intOf];omega
          ·have q2:((i:Int)==(t:Int))=false:=by simp;omega
           have H2:=Lib.hid h2
           clear h2
           by_cases h3:t<i
           ·by_cases h4:K.testBit i=true
            ·have q4:(bits BinOp.and IntKind.i64 ((K:Int)/2^i) 1==0)=false:=by rw[y0m K i (by omega),h4];rfl
             have HCv:=Lib.hid (show¬lcv x i t K=true by simp[lcv,H2.out,h4])
             have H4:=Lib.hid h4
             clear h4
             go_wp2_with fail
             go_roundw
             case rel=>exact⟨i+1,by go_num,by omega,by rw[HSu.out,if_neg (by rw[HCd.out];exact HCv.out),Qf5];exact HOc.out,HGc.out,HBc.out⟩
             case measure=>simp[intOf];omega
            ·have q4:(bits BinOp.and IntKind.i64 ((K:Int)/2^i) 1==0)=true:=by rw[y0m K i (by omega)];simpa using h4
             have HCv:=Lib.hid (show lcv x i t K=true by simp[lcv,H1.out,h3,h4])
             have H4:=Lib.hid h4
             clear h4
             go_wp2_with (at_builtin;refine q3t _ rfl (.tmp 66) (.tmp 68) 34 rfl 3 i0 (.int .i64 0) 8 Tryz.underlying34 HI.out.1 HI.out.2.1 HI.out.2.2.1 HI.out.2.2.2 rfl _ ((j1f l K t i).map I64) _ HLc.out rfl (HOc.out.alloc _) ⟨wr.heap.size,0,none⟩ 1 (I64 x) rfl ?c1b rfl ?c2b ?c3b ?_)
             case c1b=>simp
             case c2b=>unfold maxLen;omega
             case c3b=>omega
             intro g2 o2 cp2 w5 hown5 hg5 hat5
             have hk5:=j2v (o2:=o2) (n:=(j1f l K t i).length+1) (cp2:=cp2) HGc.out HBc.out hg5 hat5
             have HOw5:=Lib.hid hown5
             have HK5:=Lib.hid hk5
             clear hown5 hg5 hat5 hk5
             go_wp2_with fail
             go_roundw
             case rel=>exact⟨i+1,by go_num,by omega,by rw[HSu.out,if_pos (by rw[HCd.out];exact HCv.out),Qd4];exact HOw5.out,HK5.out.1,HK5.out.2⟩
             case measure=>simp[intOf];omega
           ·have HCv:=Lib.hid (show¬lcv x i t K=true by simp[lcv,H2.out,h3])
            go_wp2_with fail
            go_roundw
            case rel=>exact⟨i+1,by go_num,by omega,by rw[HSu.out,if_neg (by rw[HCd.out];exact HCv.out),Qf5];exact HOc.out,HGc.out,HBc.out⟩
            case measure=>simp[intOf];omega
        ·obtain rfl:i=l.length:=by omega
         obtain⟨vs,b1,b2,b3,b4⟩:=HBag.out.below HBc.out
         have hcw:Cl (fun b=>w.heap.size≤b) wr _ (j1f l K t l.length):=u4a HOc.out (fun g hg=>Qc0 HBel.out.size (HGc.out g hg))
         have HCw:=Lib.hid hcw
         obtain⟨cA',cc',ecv,_,_⟩:=hcw
         subst ecv
         have HV:=Lib.hid (And.intro b1 (And.intro b2 (And.intro b3 b4)))
         have hll2:=j0d l K j
         clear b1 b2 b3 b4
         go_wp2_with (at_builtin;refine q3t _ rfl (.tmp 71) (.tmp 73) 31 rfl 34 j0 (.slice none 0 0) 24 Tryz.underlying31 HJ.out.1 HJ.out.2.1 HJ.out.2.2.1 HJ.out.2.2.2 rfl _ vs (q1x l K j).length HV.out.2.2.1 rfl (HV.out.1.alloc _) ⟨wr.heap.size,0,none⟩ 1 (.slice cA' (j1f l K t l.length).length cc') rfl ?c1c rfl ?c2c ?c3c ?_)
         case c1c=>simp
         case c2c=>unfold maxLen;omega
         case c3c=>omega
         intro g2 o2 cp2 w5 hown5 hg5 hat5
         have hpu:=Bag.push (Qc0 HBel.out.size HBc.out.size) HV.out.1 HV.out.2.1 HV.out.2.2.1 HV.out.2.2.2 HCw.out hown5 hg5 hat5
         rw[←HFS.out]at hpu
         have HPu:=Lib.hid hpu
         clear hown5 hg5 hat5 hpu
         go_wp2_with fail
         go_roundw
         case rel=>exact⟨t+1,n&&&(n-1),by rw[HAND.out],by omega,HF4.out,HPu.out.1,HBel.out.trans ((x8e HBel.out HBc.out).trans HPu.out.2)⟩
         case measure=>rw[HAND.out];simp[intOf];omega
      ·go_wp2_with fail
       go_ret2
       rw[hr.out,y7c l K j hj (by rw[←HN.out];omega)]
       have hbg:=HBag.out
       obtain⟨C,cC,e1,e2,e3⟩:=HBag.out.rdl
       subst e1
       exact⟨C,cC,rfl,e2,e3,HBel.out,hbg⟩
   ·have hr:=Lib.hid (show q3d l k=.err 1 by rw[q3d,if_pos (.inr (.inr hany))])
    clear hany
    have d1:decide (k<0)=false:=by simp;omega
    have d2:decide (4503599627370496<k)=false:=by simp;omega
    go_enter Tryz.func111,Tryz.ntmps111
    go_wp2_with fail
    refine HCF.out.mono ?_
    rintro e w1 ⟨rfl,q1,hq1⟩
    have HQ1:=Lib.hid hq1
    clear hq1
    go_wp2_with fail
    go_ret2
    rw[hr.out,HQ1.out];exact⟨rfl,⟨rfl,rfl,rfl,Qb8 _,fun _ _=>rfl⟩⟩
end Go.Proofs.YteikjpbbhopkaaaGreatDoor
