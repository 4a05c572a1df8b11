/- Lemmas and contracts for the row. -/
import Derived.Test.YteikjpbbhopkaaaGreatDoorPkRowElimGatesD
import Derived.Shelf.Abstract
set_option linter.unusedVariables false
set_option linter.unusedSimpArgs false
set_option linter.unnecessarySimpa false
namespace Go.Proofs.YteikjpbbhopkaaaGreatDoor
open Go.RowKit Go.Shelf
def Bag (B:Nat) (w:World) (ov:Value) (cs:List (List Int)):Prop:=
 ∃vs,Own w 34 ov vs∧(∀g,ov.ownBlock=some g→B≤g)∧vs.length=cs.length∧∀(j:Nat) v xs,vs[j]? =some v→cs[j]? =some xs→Cl (fun b=>B≤b) w v xs
section
variable {B:Nat} {w w':World} {ov:Value} {cs:List (List Int)}
theorem Bag.nil (B:Nat) (w:World):Bag B w (.slice none 0 0) []:=⟨[],Own.nil _ _,fun g h=>by simp[Value.ownBlock]at h,rfl,fun j v xs hv=>by simp at hv⟩
theorem Bag.below (h:Bag B w ov cs) (hb:Below w.heap.size w w'):Bag B w' ov cs:=by
 obtain⟨vs,h1,h2,h3,h4⟩:=h
 have hk:=Kp.of_below hb
 exact⟨vs,h1.kp hk (fun g hg e=>by have:=h1.lt hg;omega),h2,h3,fun j v xs hv hx=>(h4 j v xs hv hx).kp hk (fun b hb e=>by have:=hb.lt;omega) (fun _ _ h=>h)⟩
theorem Bag.kp0 (h:Bag B w ov cs) (hk:Kp (fun _=>False) w w'):Bag B w' ov cs:=by
 obtain⟨vs,h1,h2,h3,h4⟩:=h
 exact⟨vs,h1.kp hk (fun _ _ h=>h),h2,h3,fun j v xs hv hx=>(h4 j v xs hv hx).kp hk (fun _ _ h=>h) (fun _ _ h=>h)⟩
theorem Bag.push {vs:List Value} {lv:Value} {xs:List Int} {o:Obj} {gg off cap:Nat} (hB:B≤w.heap.size) (h1:Own w 34 ov vs) (h2:∀g,ov.ownBlock=some g→B≤g) (h3:vs.length=cs.length)
 (h4:∀(j:Nat) v xs,vs[j]? =some v→cs[j]? =some xs→Cl (fun b=>B≤b) w v xs) (hl:Cl (fun b=>B≤b) w lv xs)
 (hown:Own w' 34 (.slice (some ⟨gg,off,none⟩) (cs.length+1) cap) (vs++[lv])) (hg:(w.alloc o).grownBy w' ov.ownBlock) (hat:ov.ownBlock=some gg∨gg=w.heap.size+1):
 Bag B w' (.slice (some ⟨gg,off,none⟩) (cs.length+1) cap) (cs++[xs])∧Below B w w':=by
 have hk:Kp (fun b=>ov.ownBlock=some b) w w':=((Kp.refl (fun b=>ov.ownBlock=some b) w).alloc o).grown hg (fun _ e _=>e)
 have hc:∀{v:Value} {ys:List Int},Cl (fun b=>B≤b) w v ys→Cl (fun b=>B≤b) w' v ys:=fun h=>h.kp hk (fun b hb e=>hb.ne_own h1 (by decide) e) (fun _ _ h=>h)
 refine⟨⟨_,hown,fun g hgg=>?_,by simp[h3],fun j v ys hv hy=>?_⟩,hk.below (fun b hb _ e=>by have:=h2 b e;omega) hB⟩
 ·have e:gg=g:=by simpa[Value.ownBlock]using hgg
  subst e
  rcases hat with e|e
  ·exact h2 _ e
  ·omega
 ·rw[Qm4]at hv hy
  rw[h3]at hv
  by_cases hj:j<cs.length
  ·rw[if_pos hj]at hv hy
   exact hc (h4 j v ys hv hy)
  ·rw[if_neg hj]at hv hy
   have e0:j-cs.length=0:=by
    rcases Qj7 (j-cs.length)with h|h
    ·exact h
    ·rw[Ql7 (by simp;omega)]at hv;cases hv
   rw[e0]at hv hy
   simp at hv hy
   subst hv hy
   exact hc hl
theorem Bag.rdl (h:Bag B w ov cs):∃C cC,ov=.slice C cs.length cC∧cs.length≤cC∧RdL (· <w.heap.size) w C cs:=by
 obtain⟨vs,h2,_,h3,h4⟩:=h
 have h2':=h2
 obtain⟨C,cC,e,hc,hcell⟩:=h2.cell
 rw[h3]at e hc
 refine⟨C,cC,e,hc,fun hn=>?_⟩
 obtain⟨b,off,e1,hb,_⟩:=hcell 0 (by omega)
 refine⟨b,off,e1,h2'.lt hb,fun j hj=>?_⟩
 obtain⟨b',off',e2,_,hc'⟩:=hcell j (by omega)
 rw[e1]at e2
 cases e2
 obtain⟨A',c',e3,h5,h6⟩:=h4 j (vs[j]'(by omega)) cs[j] (Qa0 (by omega)) (Qa0 hj)
 exact⟨A',c',by rw[hc',e3],h5,h6.mono (fun b hb=>hb.lt)⟩
end
def u7s (f:Nat) (lb:List Value) (pd:Int→Bool) (l:List Int) (w:World):Prop:=
 ∀x∈l,∀n,Calls Tryz.prog f (I64 x::lb).toArray (w.drewN n) fun e w'=>e=.returned (.bool (pd x))∧∃q,w'=w.drewN q
set_option maxHeartbeats 800000 in
theorem u7d {D:Nat→Prop} (f:Nat) (lb:List Value) (pd:Int→Bool) (A:Option Addr) (c:Nat) (l:List Int) (w:World) (heg:∀(args:Array Value) (w:World),(callFunc f args).run Tryz.prog w=.ok (.enter f args) w)
 (hp:u7s f lb pd l w) (hr:Rd I64 D w A l) (hl:l.length≤maxLen):
 Calls Tryz.prog 47 #[.slice A l.length c,.func (.func f) #[] lb.toArray] w fun e w'=>(∃i:Int,e=.returned (I64 i)∧(decide (0≤i)=l.any pd))∧∃q,w'=w.drewN q:=by
 unfold maxLen at hl
 have HP:=Lib.hid hp
 have HR:=Lib.hid hr
 clear hp hr
 go_enter Tryz.func47,Tryz.ntmps47
 go_wp2_with fail
 go_loopw [8] (fun i wr=>∃k q:Nat,i=.int .i64 k∧k≤l.length∧wr=w.drewN q∧(l.take k).any pd=false) (fun i _=>l.length-(intOf i).toNat)
 case atStart=>exact⟨0,0,rfl,Qc1 _,rfl,rfl⟩
 case round=>
  obtain⟨k,q,rfl,hk,hw,ht⟩:=hrel
  have HW:=Lib.hid hw
  have HT:=Lib.hid ht
  clear ht hw
  by_cases hlt:k<l.length
  ·obtain⟨a,oa,rfl,_,ca⟩:=(show Rd I64 D wr A l by rw[HW.out];exact HR.out).at_ hlt
   have hpx:=HP.out l[k] (Qc7 hlt) q
   have htk:(l.take (k+1)).any pd=pd l[k]:=by rw[Qb9 hlt,Qn3,HT.out];simp
   have hyes:pd l[k]=true→l.any pd=true:=fun h=>List.any_eq_true.2 ⟨l[k],Qc7 hlt,h⟩
   rw[←HW.out]at hpx
   generalize l[k]=x at ca hpx htk hyes
   have HPX:=Lib.hid hpx
   have HTK:=Lib.hid htk
   have HY:=Lib.hid hyes
   clear hpx htk hyes
   generalize hb:pd x=b at HPX HTK HY
   have HBB:=Lib.hid hb
   clear hb
   go_wp2_with fail
   refine HPX.out.mono ?_
   rintro e w3 ⟨rfl,q3,hq3⟩
   have HQ3:=Lib.hid hq3
   clear hq3
   cases b
   ·go_wp2_with fail
    go_roundw
    case rel=>exact⟨k+1,q3,by go_num,by omega,HQ3.out,HTK.out⟩
    case measure=>simp[intOf];omega
   ·go_wp2_with fail
    go_ret
    exact⟨⟨_,rfl,by have h:=HY.out (by simp);rw[h];simp⟩,q3,HQ3.out⟩
  ·go_wp2_with fail
   go_ret
   refine⟨⟨_,rfl,?_⟩,q,HW.out⟩
   have h2:=HT.out
   rw[Qd6 (by omega)]at h2
   rw[h2];rfl
set_option maxHeartbeats 400000 in
theorem x8w {D:Nat→Prop} (f:Nat) (lb:List Value) (pd:Int→Bool) (A:Option Addr) (c:Nat) (l:List Int) (w:World) (heg:∀(args:Array Value) (w:World),(callFunc f args).run Tryz.prog w=.ok (.enter f args) w)
 (hp:u7s f lb pd l w) (hr:Rd I64 D w A l) (hl:l.length≤maxLen):
 Calls Tryz.prog 20 #[.slice A l.length c,.func (.func f) #[] lb.toArray] w fun e w'=>e=.returned (.bool (l.any pd))∧∃q,w'=w.drewN q:=by
 have H:=Lib.hid (u7d f lb pd A c l w heg hp hr hl)
 clear heg hp hr hl
 go_enter Tryz.func20,Tryz.ntmps20
 go_wp2_with fail
 refine H.out.mono ?_
 rintro e w3 ⟨⟨i,rfl,hi⟩,q3,hq3⟩
 have HI:=Lib.hid hi
 have HQ3:=Lib.hid hq3
 clear hi hq3
 go_wp2_with fail
 go_ret
 exact⟨by simp[←HI.out],q3,HQ3.out⟩
end Go.Proofs.YteikjpbbhopkaaaGreatDoor
namespace Go.Proofs.YteikjpbbhopkaaaGreatDoor
open Go.RowKit Go.Shelf
theorem q3a {w w' w'':World} (h:Below w.heap.size w w') (h':Below w'.heap.size w' w''):Below w.heap.size w w'':=h.trans ⟨h'.os,h'.tape,h'.output,h'.size,fun i hi=>h'.block i (Qc2 hi h.size)⟩
theorem Rd.up {α:Type} {enc:α→Value} {w w':World} {A:Option Addr} {xs:List α} (h:Rd enc (· <w.heap.size) w A xs) (hb:Below w.heap.size w w'):Rd enc (· <w'.heap.size) w' A xs:=(h.below hb).mono (fun _ h=>Qc2 h hb.size)
theorem q8b (w:World) (o:Obj):Below w.heap.size w (w.alloc o):=(Below.refl _ _).alloc (Qb8 _) _
theorem j1r (w:World) (o o2:Obj):Below w.heap.size w ((w.alloc o).alloc o2):=q3a (q8b w o) (q8b _ o2)
theorem j4p {B:Nat} {w w':World} (h:Below B w w') (n:Nat):Below B w (w'.drewN n):=⟨h.os,h.tape,h.output,h.size,h.block⟩
theorem v2k (w:World) (o:Obj) (t:TypeId) (ys:Array Value):Blk ((w.alloc o).alloc (.cells ys t)) (w.heap.size+1) t ys:=by simpa using Blk.new (w.alloc o) t ys
theorem u9s {x y:Int} (h:x=y):Ending.returned (I64 x)=Ending.returned (I64 y):=by rw[h]
end Go.Proofs.YteikjpbbhopkaaaGreatDoor
namespace Go.Proofs.YteikjpbbhopkaaaGreatDoor
open Go.RowKit Go.Shelf
theorem u6s (x:Int) (w:World) (h1: -70000≤x) (h2:x≤70000):Calls Tryz.prog 74 #[I64 x] w fun e w'=>e=.returned (I64 (x.natAbs:Int))∧w=w':=by
 by_cases h:0<x
 ·have HR:=Lib.hid (show(x.natAbs:Int)=x by omega)
  go_enter Tryz.func74,Tryz.ntmps74
  go_wp2
  go_ret
  exact⟨by rw[HR.out];rfl,rfl⟩
 ·have HR:=Lib.hid (show(x.natAbs:Int)= -x by omega)
  go_enter Tryz.func74,Tryz.ntmps74
  go_wp2
  all_goals
   go_ret
   exact⟨by rw[HR.out];exact u9s (by omega),rfl⟩
theorem x4e (c:Int) (w:World):Calls Tryz.prog 69 #[I64 c] w fun e w'=>e=.returned (.bool (!z7y c))∧w=w':=by
 by_cases h1:c< -1099511627776
 ·have e1:decide (-1099511627776≤c)=false:=by simp;omega
  have HR:=Lib.hid (show z7y c=true by simp[z7y,h1])
  go_enter Tryz.func69,Tryz.ntmps69
  go_wp2
  go_ret
  exact⟨by rw[HR.out];rfl,rfl⟩
 ·have e1:decide (-1099511627776≤c)=true:=by simp;omega
  by_cases h2:1099511627776<c
  ·have e2:decide (c≤1099511627776)=false:=by simp;omega
   have HR:=Lib.hid (show z7y c=true by simp[z7y,h2])
   go_enter Tryz.func69,Tryz.ntmps69
   go_wp2
   go_ret
   exact⟨by rw[HR.out];rfl,rfl⟩
  ·have e2:decide (c≤1099511627776)=true:=by simp;omega
   have HR:=Lib.hid (show z7y c=false by simp[z7y,h1,h2])
   go_enter Tryz.func69,Tryz.ntmps69
   go_wp2
   go_ret
   exact⟨by rw[HR.out];rfl,rfl⟩
theorem z1c (c:Int) (w:World):Calls Tryz.prog 68 #[I64 c] w fun e w'=>e=.returned (.bool (z7y c))∧w=w':=by
 go_enter Tryz.func68,Tryz.ntmps68
 go_wp2_with fail
 refine(x4e c w).mono ?_
 rintro e w1 ⟨rfl,rfl⟩
 go_wp2_with fail
 go_ret
 exact⟨by simp,rfl⟩
theorem x4y (x n:Int) (g:Nat) (w:World) (hg:w.cell? ⟨g,0,none⟩=some (I64 n)) (hn0:0≤n) (hn:n≤65536):Calls Tryz.prog 70 #[I64 x,.pointer (some ⟨g,0,none⟩)] w fun e w'=>e=.returned (.bool (q4j n x))∧w=w':=by
 by_cases h0:x=0
 ·have e0:(x==0)=true:=by simpa using h0
  have HR:=Lib.hid (show q4j n x=true by simp[q4j,h0])
  clear h0
  go_enter Tryz.func70,Tryz.ntmps70
  go_wp2
  go_ret
  exact⟨by rw[HR.out];rfl,rfl⟩
 ·have e0:(x==0)=false:=by simpa using h0
  by_cases h1:n<x
  ·have HR:=Lib.hid (show q4j n x=true by simp[q4j,h1])
   clear h0
   go_enter Tryz.func70,Tryz.ntmps70
   go_wp2
   go_ret
   exact⟨by rw[HR.out];rfl,rfl⟩
  ·have e1:decide (n<x)=false:=by simpa using h1
   by_cases h2:x< -n
   ·have HR:=Lib.hid (show q4j n x=true by simp[q4j,h2])
    clear h0
    go_enter Tryz.func70,Tryz.ntmps70
    go_wp2
    go_ret
    exact⟨by rw[HR.out];rfl,rfl⟩
   ·have e2:decide (x< -n)=false:=by simpa using h2
    have HR:=Lib.hid (show q4j n x=false by simp[q4j,h0,h1,h2])
    clear h0
    go_enter Tryz.func70,Tryz.ntmps70
    go_wp2
    go_ret
    exact⟨by rw[HR.out];rfl,rfl⟩
abbrev k7s (A L:Option Addr) (cA cL:Nat) (l:q4p):Value:=.agg #[.slice A l.C.length cA,.slice L l.L.length cL,I64 l.B]
def j0q (w:World) (A L:Option Addr) (l:q4p):Prop:=Rd I64 (· <w.heap.size) w A l.C∧Rd I64 (· <w.heap.size) w L l.L∧l.C.length≤maxLen∧l.L.length≤maxLen
theorem j0q.up {w w':World} {A L:Option Addr} {l:q4p} (h:j0q w A L l) (hb:Below w.heap.size w w'):j0q w' A L l:=⟨h.1.up hb,h.2.1.up hb,h.2.2⟩
set_option maxHeartbeats 1600000 in
theorem j0w (A L:Option Addr) (cA cL:Nat) (l:q4p) (n:Int) (w:World) (h:j0q w A L l):
 Calls Tryz.prog 40 #[k7s A L cA cL l,I64 n] w fun e w'=>e=.returned (I64 (q0o l n))∧Below w.heap.size w w':=by
 obtain⟨hrc,hrl,hlc,hll⟩:=h
 have HRC:=Lib.hid hrc
 have HRL:=Lib.hid hrl
 unfold maxLen at hlc hll
 clear hrc hrl
 by_cases h1:n<0
 ·have HE:=Lib.hid (show q0o l n=1 by rw[q0o,if_pos (.inl h1)])
  go_enter Tryz.func40,Tryz.ntmps40
  go_wp2_with fail
  go_ret
  exact⟨by rw[HE.out];rfl,j1r w _ _⟩
 ·have e1:decide (n<0)=false:=by simpa using h1
  by_cases h2:65536<n
  ·have HE:=Lib.hid (show q0o l n=1 by rw[q0o,if_pos (.inr (.inl h2))])
   go_enter Tryz.func40,Tryz.ntmps40
   go_wp2_with fail
   go_ret
   exact⟨by rw[HE.out];rfl,j1r w _ _⟩
  ·have e2:decide (65536<n)=false:=by simpa using h2
   by_cases h3:l.C.length=l.L.length
   ·have e3:((l.C.length:Int) !=(l.L.length:Int))=false:=by simp;omega
    have H3:=Lib.hid h3
    clear h3
    cases h4:z7y l.B
    ·have HB:=Lib.hid h4
     have HE:=Lib.hid (show q0o l n=if l.C.any z7y=true∨l.L.any (q4j n)=true then 1 else if 4096<l.L.length then 2 else 0 by rw[q0o,if_neg (by rw[h4];have:=H3.out;simp;omega)])
     clear h4
     go_enter Tryz.func40,Tryz.ntmps40
     go_wp2_with fail
     have HBw:=Lib.hid (j1r w (Obj.cells #[Value.slice A l.C.length cA,Value.slice L l.L.length cL,I64 l.B] 57) (Obj.cells #[I64 n] 3))
     have HD1:=Lib.hid ((Blk.new w 57 #[Value.slice A l.C.length cA,Value.slice L l.L.length cL,I64 l.B]).alloc (Obj.cells #[I64 n] 3))
     have HD2:=Lib.hid (v2k w (Obj.cells #[Value.slice A l.C.length cA,Value.slice L l.L.length cL,I64 l.B] 57) 3 #[I64 n])
     generalize hw1:(w.alloc (Obj.cells #[Value.slice A l.C.length cA,Value.slice L l.L.length cL,I64 l.B] 57)).alloc (Obj.cells #[I64 n] 3)=w1 at HBw HD1 HD2⊢
     clear hw1
     have cf1:=x8w 68 [] z7y A cA l.C w1 (enters_of Tryz.func68 (by kernel_rfl) rfl) (fun x _ q=>(z1c x _).mono fun _ _ ⟨h1,h2⟩=>⟨h1,q,h2.symm⟩) (HRC.out.up HBw.out) (by unfold maxLen;omega)
     have HCF1:=Lib.hid cf1
     have HCF2:=Lib.hid (fun q=>x8w 70 [.pointer (some ⟨w.heap.size+1,0,none⟩)] (q4j n) L cL l.L (w1.drewN q) (enters_of Tryz.func70 (by kernel_rfl) rfl)
      (fun x _ r=>(x4y x n (w.heap.size+1) ((w1.drewN q).drewN r) (HD2.out.cell 0) (by omega) (by omega)).mono fun _ _ ⟨h1,h2⟩=>⟨h1,r,h2.symm⟩) (HRL.out.up (j4p HBw.out q)) (by unfold maxLen;omega))
     clear cf1
     refine(z1c l.B w1).mono ?_
     rintro e w2 ⟨rfl,rfl⟩
     rw[HB.out]
     have c0:w1.cell? ⟨w.heap.size,0,none⟩=some (.slice A l.C.length cA):=HD1.out.cell 0
     have c1:w1.cell? ⟨w.heap.size,1,none⟩=some (.slice L l.L.length cL):=HD1.out.cell 1
     generalize l.C.any z7y=bC at HCF1 HE
     go_wp2_with fail
     refine HCF1.out.mono ?_
     rintro e w3 ⟨rfl,q3,hq3⟩
     cases bC
     ·have hc2:=HCF2.out q3
      rw[←hq3]at hc2
      have HC2:=Lib.hid hc2
      have d1:w3.cell? ⟨w.heap.size,1,none⟩=some (.slice L l.L.length cL):=by rw[hq3];exact HD1.out.cell 1
      have HB3:=Lib.hid (show Below w.heap.size w w3 by rw[hq3];exact j4p HBw.out _)
      have HD3:=Lib.hid (show∀q,(w3.drewN q).cell? ⟨w.heap.size,1,none⟩=some (.slice L l.L.length cL)from fun q=>by rw[hq3];exact HD1.out.cell 1)
      clear hq3 hc2 HCF1 HCF2
      generalize l.L.any (q4j n)=bL at HC2 HE
      go_wp2_with fail
      refine HC2.out.mono ?_
      rintro e w4 ⟨rfl,q4,hq4⟩
      have d2:w4.cell? ⟨w.heap.size,1,none⟩=some (.slice L l.L.length cL):=by rw[hq4];exact HD3.out q4
      have HB4:=Lib.hid (show Below w.heap.size w w4 by rw[hq4];exact j4p HB3.out _)
      clear hq4
      cases bL
      ·by_cases h5:4096<l.L.length
       ·have HE2:=Lib.hid (show q0o l n=2 by rw[HE.out,if_neg (by simp),if_pos h5])
        go_wp2_with fail
        go_ret
        exact⟨by rw[HE2.out];rfl,HB4.out⟩
       ·have HE2:=Lib.hid (show q0o l n=0 by rw[HE.out,if_neg (by simp),if_neg h5])
        go_wp2_with fail
        go_ret
        exact⟨by rw[HE2.out];rfl,HB4.out⟩
      ·have HE2:=Lib.hid (show q0o l n=1 by rw[HE.out,if_pos (.inr rfl)])
       go_wp2_with fail
       go_ret
       exact⟨by rw[HE2.out];rfl,HB4.out⟩
     ·have HE2:=Lib.hid (show q0o l n=1 by rw[HE.out,if_pos (.inl rfl)])
      have HB3:=Lib.hid (show Below w.heap.size w w3 by rw[hq3];exact j4p HBw.out _)
      clear hq3
      go_wp2_with fail
      go_ret
      exact⟨by rw[HE2.out];rfl,HB3.out⟩
    ·have HB:=Lib.hid h4
     have HE:=Lib.hid (show q0o l n=1 by rw[q0o,if_pos (.inr (.inr (.inr h4)))])
     clear h4
     go_enter Tryz.func40,Tryz.ntmps40
     go_wp2_with fail
     refine(z1c l.B _).mono ?_
     rintro e w2 ⟨rfl,rfl⟩
     rw[HB.out]
     go_wp2_with fail
     go_ret
     exact⟨by rw[HE.out];rfl,j1r w _ _⟩
   ·have e3:((l.C.length:Int) !=(l.L.length:Int))=true:=by simp;omega
    have HE:=Lib.hid (show q0o l n=1 by rw[q0o,if_pos (.inr (.inr (.inl h3)))])
    clear h3
    go_enter Tryz.func40,Tryz.ntmps40
    go_wp2_with fail
    go_ret
    exact⟨by rw[HE.out];rfl,j1r w _ _⟩
theorem k2e (A L:Option Addr) (cA cL:Nat) (l:q4p) (w:World) (h:j0q w A L l):
 Calls Tryz.prog 71 #[k7s A L cA cL l] w fun e w'=>e=.returned (I64 (q0o l 65536))∧Below w.heap.size w w':=by
 have H:=Lib.hid h
 clear h
 go_enter Tryz.func71,Tryz.ntmps71
 go_wp2_with fail
 refine(j0w A L cA cL l 65536 _ (H.out.up (q8b w _))).mono ?_
 rintro e w1 ⟨rfl,b1⟩
 have B1:=Lib.hid (q3a (q8b w _) b1)
 clear b1
 go_wp2_with fail
 go_ret
 exact⟨rfl,B1.out⟩
end Go.Proofs.YteikjpbbhopkaaaGreatDoor
