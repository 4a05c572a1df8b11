/- Lemmas and contracts for the row. -/
import Derived.Test.YteikjpbbhopkaaaGreatDoorPkRowElimGatesD
import Derived.StillTailTactics
import Derived.Shelf.Abstract
set_option linter.unusedVariables false
set_option linter.unusedSimpArgs false
set_option linter.unnecessarySimpa false
namespace Go.Proofs.YteikjpbbhopkaaaGreatDoor
open Go.RowKit
def prk (l:List Int) (i k:Nat):List (Int×Int):=prs l i++((l.drop (i+1)).take k).map fun y=>(l.getD i 0,y)
theorem x0v (l:List Int) (i:Nat):prs l (i+1)=prs l i++(l.drop (i+1)).map fun y=>(l.getD i 0,y):=by
 simp[prs,Qe8]
theorem k8m (l:List Int) (i:Nat):prk l i 0=prs l i:=by simp[prk]
theorem k8q (l:List Int) (i k:Nat) (h:i+k+1<l.length) (hi:i<l.length):prk l i (k+1)=prk l i k++[(l[i],l[i+k+1])]:=by
 unfold prk
 rw[Qb9 (by simp;omega)]
 simp only[Qd4,Qc4,Qc6,Qj9,Qq2]
 simp only[show i+1+k=i+k+1 by omega,Qa1,Qa0 hi,Qr0]
theorem u3f (l:List Int) (i k:Nat) (h:l.length≤i+k+1):prk l i k=prs l (i+1):=by
 rw[x0v];unfold prk;rw[Qd6 (by simp;omega)]
theorem x8h (l:List Int) (i:Nat):(prs l i).length≤i*l.length:=by
 induction i with
 |zero=>simp[prs]
 |succ i ih=>rw[x0v,Qa3,Qa9,Qg2,Qk5];omega
theorem u2c (cs:List (List Int)) (l:List Int) (a k:Nat) (g:Int→Int→List Int) (hn:cs.length<1000000000) (hl:l.length≤1000) (ha:a<l.length):(cs++(prk l a k).map fun q=>g q.1 q.2).length<1000000000000:=by
 have h1:=x8h l a
 have h2:a*l.length≤1000*1000:=Nat.mul_le_mul (by omega) hl
 simp only[prk,Qa3,Qa9,Qd0,Qg2]
 omega
def Does (f:Nat) (lb:List Value) (g:Int→Int→List Int) (E:Nat→Prop) (p:Nat) (mv:Value) (nx:Int) (W:World→Prop):Prop:=
 ∀(x y:Int) (w:World) (cv:Value) (cs:List (List Int)),-1000000000≤x→x≤1000000000→-1000000000≤y→y≤1000000000→W w→St E w p mv nx cv cs→(∀b,w.heap.size≤b→E b)→cs.length<1000000000000→
  Calls Tryz.prog f (I64 x::I64 y::lb).toArray w fun e w'=>e=.returned (.tuple #[])∧∃cv',St E w' p mv nx cv' (cs++[g x y])∧Stp p w cv w' cv'
theorem q4t {E:Nat→Prop} {w w':World} {p bl:Nat} {mv cv cv':Value} {nx:Int} {cs:List (List Int)} {ys:Array Value} (hb:Blk w bl 34 ys) (h:St E w p mv nx cv cs) (hbl:cv.ownBlock≠some bl) (hs:Stp p w cv w' cv'):Blk w' bl 34 ys:=by
 obtain⟨vs,h1,_⟩:=h
 refine hb.kp hs.1 fun hm=>?_
 rcases hm with hm|hm
 ·exact hb.ne_ h1 (by decide) hm
 ·exact hbl hm
theorem q7n {E F:Nat→Prop} {w w':World} {p:Nat} {mv cv cv' v:Value} {nx:Int} {cs:List (List Int)} {xs:List Int} (hv:Cl F w v xs) (h:St E w p mv nx cv cs) (hs:Stp p w cv w' cv'):Cl F w' v xs:=by
 obtain⟨vs,h1,h2,_⟩:=h
 refine hv.kp hs.1 (fun b hb hm=>?_) (fun _ _ h=>h)
 rcases hm with hm|hm
 ·exact hb.ne_blk h1 (by decide) hm
 ·exact hb.ne_own h2 (by decide) hm
theorem q1h {E:Nat→Prop} {w w':World} {p b:Nat} {t:TypeId} {mv cv cv':Value} {nx:Int} {cs:List (List Int)} {ys:Array Value} (hb:Blk w b t ys) (ht:t≠163) (ht':t≠34) (h:St E w p mv nx cv cs) (hs:Stp p w cv w' cv'):Blk w' b t ys:=by
 obtain⟨vs,h1,h2,_⟩:=h
 refine hb.kp hs.1 fun hm=>?_
 rcases hm with hm|hm
 ·exact hb.ne_ h1 ht hm
 ·exact h2.ne_blk hb (Ne.symm ht') hm
set_option maxRecDepth 100000 in
set_option maxHeartbeats 1000000 in
theorem y1c {E F:Nat→Prop} (f p bl:Nat) (c1 c2:Addr) (g:Int→Int→List Int) (mv cv:Value) (nx:Int) (A:Option Addr) (c:Nat) (l:List Int) (cs:List (List Int)) (w:World) (W:World→Prop)
 (heg:∀(args:Array Value) (w:World),(callFunc f args).run Tryz.prog w=.ok (.enter f args) w) (hdo:Does f [.pointer (some c1),.pointer (some c2)] g E p mv nx W) (hW:∀w' cv',Stp p w cv w' cv'→W w')
 (h:St E w p mv nx cv cs) (hE:∀b,w.heap.size≤b→E b) (hn:cs.length<1000000000) (hl:l.length≤1000)
 (hb:Blk w bl 34 #[.slice A l.length c]) (hbl:cv.ownBlock≠some bl) (hr:Cl F w (.slice A l.length c) l) (hbd:∀x∈l,-1000000000≤x∧x≤1000000000):
 Calls Tryz.prog 155 #[.func (.func f) #[] #[.pointer (some c1),.pointer (some c2)],.pointer (some ⟨bl,0,none⟩)] w fun e w'=>e=.returned (.tuple #[])∧
  ∃cv',St E w' p mv nx cv' (cs++(prs l l.length).map fun q=>g q.1 q.2)∧Stp p w cv w' cv':=by
 have cb:=hb.cell 0
 simp only[Qa5,Qa4]at cb
 have HD:=Lib.hid hdo
 have HW:=Lib.hid hW
 have HS:=Lib.hid h
 have HE:=Lib.hid hE
 have HB:=Lib.hid hb
 have HBL:=Lib.hid hbl
 have HR:=Lib.hid hr
 have HBD:=Lib.hid hbd
 clear hdo hW h hE hb hbl hr hbd
 go_enter Tryz.func155,Tryz.ntmps155
 go_wp2_with fail
 go_loopw [7] (fun i wr=>∃a:Nat,i=.int .i64 a∧a≤l.length∧∃cv',St E wr p mv nx cv' (cs++(prs l a).map fun q=>g q.1 q.2)∧Stp p w cv wr cv') (fun i _=>l.length-(intOf i).toNat)
 case atStart=>exact⟨0,rfl,Qc1 _,cv,by simpa[prs]using HS.out,Stp.refl _ _ _⟩
 case round=>
  obtain⟨a,rfl,ha,cv1,s1,t1⟩:=hrel
  have HS1:=Lib.hid s1
  have HT1:=Lib.hid t1
  clear s1 t1
  by_cases hlt:a<l.length
  ·have cb1:=(q4t HB.out HS.out HBL.out HT1.out).cell 0
   simp only[Qa5,Qa4]at cb1
   go_wp2_with fail
   clear cb1
   obtain⟨wo,rfl⟩:∃wo:World,wo=wr:=⟨_,rfl⟩
   go_loopw [15] (fun i wr=>∃k:Nat,i=.int .i64 k∧k≤l.length-a-1∧∃cv',St E wr p mv nx cv' (cs++(prk l a k).map fun q=>g q.1 q.2)∧Stp p w cv wr cv') (fun i _=>l.length-(intOf i).toNat)
   case atStart=>exact⟨0,rfl,Qc1 _,cv1,by rw[k8m];exact HS1.out,HT1.out⟩
   case round=>
    obtain⟨k,rfl,hk,cv2,s2,t2⟩:=hrel
    have HS2:=Lib.hid s2
    have HT2:=Lib.hid t2
    clear s2 t2
    by_cases hlk:k<l.length-a-1
    ·have cb1:=(q4t HB.out HS.out HBL.out HT2.out).cell 0
     simp only[Qa5,Qa4]at cb1
     obtain⟨A',c',e1,_,hrd⟩:=q7n HR.out HS.out HT2.out
     obtain⟨rfl,rfl⟩:A'=A∧c'=c:=by simp at e1;exact⟨e1.1.symm,e1.2.symm⟩
     obtain⟨ab,ao,rfl,_,hcell⟩:=hrd (by omega)
     have ca:=hcell a hlt
     have hk1:a+k+1<l.length:=by omega
     have ck:=hcell (a+k+1) hk1
     have b1:=HBD.out _ (Qc7 hlt)
     have b2:=HBD.out _ (Qc7 hk1)
     have hW2:=Lib.hid (HW.out _ _ HT2.out)
     have hE2:Hid (∀b,wr.heap.size≤b→E b):=fun b hb=>HE.out b (Qc0 HT2.out.size hb)
     have hlen:(cs++(prk l a k).map fun q=>g q.1 q.2).length<1000000000000:=u2c cs l a k g hn hl hlt
     have HLn:=Lib.hid hlen
     have hsn:=k8q l a k hk1 hlt
     generalize l[a]=x0 at ca b1 hsn
     generalize l[a+k+1]=y0 at ck b2 hsn
     have HSN:=Lib.hid hsn
     have B1:=Lib.hid b1
     have B2:=Lib.hid b2
     have i1:(0:Int)≤(a:Int):=by omega
     have i2:(a:Int)<(l.length:Int):=by omega
     have i3:(0:Int)≤(a:Int)+(k:Int)+1:=by omega
     have i4:(a:Int)+(k:Int)+1<(l.length:Int):=by omega
     clear e1 hcell hlen hsn b1 b2
     go_wp2_with fail
     have w1:IntKind.i64.wrap ((a:Int)+(k:Int))=(a:Int)+(k:Int):=IntWalk.i64_in _ (by omega)
     have w2:IntKind.i64.wrap ((a:Int)+(k:Int)+1)=(a:Int)+(k:Int)+1:=IntWalk.i64_in _ (by omega)
     have w3:((a:Int)+(k:Int)+1).toNat=a+k+1:=by omega
     go_still_tail 12,(by kernel_rfl)
     clear w1 w2 w3
     change wpList _ _ _ _ _ wr.drew
     go_wp2_with fail
     refine(HD.out x0 y0 wr.drew cv2 _ B1.out.1 B1.out.2 B2.out.1 B2.out.2 ?c1 ?c2 ?c3 HLn.out).mono ?_
     case c1=>exact HW.out _ _ (HT2.out.drewN 1)
     case c2=>exact HS2.out.drewN 1
     case c3=>exact hE2
     rintro e w3 ⟨rfl,cv3,s3,t3⟩
     have HS3:=Lib.hid s3
     have HT3:=Lib.hid t3
     clear s3 t3
     go_wp2_with fail
     go_roundw
     case rel=>exact⟨k+1,by go_num,by omega,cv3,by rw[HSN.out,Qd4,←Qc4];exact HS3.out,(HT2.out.drewN 1).trans HT3.out⟩
     case measure=>simp[intOf];omega
    ·go_wp2_with fail
     go_roundw
     case rel=>exact⟨a+1,by go_num,by omega,cv2,by rw[←u3f l a k (by omega)];exact HS2.out,HT2.out⟩
     case measure=>simp[intOf];omega
  ·go_wp2_with fail
   go_end0
   obtain rfl:a=l.length:=by omega
   exact⟨rfl,cv1,HS1.out,HT1.out⟩
end Go.Proofs.YteikjpbbhopkaaaGreatDoor
