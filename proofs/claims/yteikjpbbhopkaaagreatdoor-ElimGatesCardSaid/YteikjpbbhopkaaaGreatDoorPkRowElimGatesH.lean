/- Lemmas and contracts for the row. -/
import Derived.Test.YteikjpbbhopkaaaGreatDoorPkRowElimGatesG
import Derived.Deep.RegionHeld3
set_option linter.unusedVariables false
set_option linter.unusedSimpArgs false
set_option linter.unnecessarySimpa false
namespace Go.Proofs.YteikjpbbhopkaaaGreatDoor
open Go.RowKit Go.Shelf
theorem St.next {E:Nat→Prop} {w w':World} {p:Nat} {mv cv:Value} {nx nx':Int} {cs:List (List Int)} (h:St E w p mv nx cv cs) (hk:Kp (fun k=>k=p) w w') (hp:Blk w' p 163 #[mv,cv,I64 nx']):St E w' p mv nx' cv cs:=by
 obtain⟨vs,h1,h2,h3,h4⟩:=h
 exact⟨vs,hp,h2.kp hk (fun g hg e=>h2.ne_blk h1 (by decide) (by rw[hg,e])),h3,fun j v xs hv hx=>(h4 j v xs hv hx).kp hk (fun b hb e=>hb.ne_blk h1 (by decide) e) (fun _ _ h=>h)⟩
theorem St.ne_blk {E:Nat→Prop} {w:World} {p:Nat} {mv cv:Value} {nx:Int} {cs:List (List Int)} (h:St E w p mv nx cv cs) {g:Nat} (hg:w.heap.size≤g):cv.ownBlock≠some g:=fun e=>by
 obtain⟨vs,_,h2,_⟩:=h
 have:=h2.lt e
 omega
theorem St.lt {E:Nat→Prop} {w:World} {p:Nat} {mv cv:Value} {nx:Int} {cs:List (List Int)} (h:St E w p mv nx cv cs):p<w.heap.size:=by
 obtain⟨vs,h1,_⟩:=h
 exact h1.lt
theorem x9l (l:List Int) (n:Nat):z5s l n 0=l:=by
 apply Qh6 (by simp[z5s])
 intro i h1 h2
 simp[z5s]
theorem k0l (l:List Int) (n k:Nat) (h:k<l.length):(z5s l n k)[k]'(by simpa[z5s]using h)=l[k]:=by simp[z5s]
theorem x7p (l:List Int) (n k:Nat) (h:k<l.length):z5s l n (k+1)=(z5s l n k).set k (sgn n k l[k]):=by
 apply Qh6 (by simp[z5s])
 intro i h1 h2
 simp only[z5s,List.getElem_mapIdx,List.getElem_set]
 by_cases hi:k=i
 ·subst hi;simp
 ·rw[if_neg hi]
  by_cases h3:i<k
  ·rw[if_pos (by omega),if_pos h3]
  ·rw[if_neg (by omega),if_neg h3]
theorem y2n (a:Nat) (ha:a<9223372036854775808):(BitVec.ofInt 64 (a:Int)).toNat=a:=by
 rw[BitVec.ofInt_natCast,BitVec.toNat_ofNat];exact Qo3 (by omega)
theorem z6x (a b:Nat) (ha:a<9223372036854775808) (hb:b<9223372036854775808):bits .and .i64 (a:Int) (b:Int)=((a&&&b:Nat):Int):=by
 have hx:a&&&b<2^63:=Nat.and_lt_two_pow _ (by omega)
 show IntKind.i64.wrap ((BitVec.ofInt 64 (a:Int)&&&BitVec.ofInt 64 (b:Int)).toNat:Int)=_
 rw[BitVec.toNat_and,y2n a ha,y2n b hb,IntKind.wrap_i64]
 omega
theorem k9c (k j:Nat) (hk:k<9223372036854775808):(bits BinOp.and IntKind.i64 ((k:Int)/2^j) 1==1)=k.testBit j:=by
 have e1:(k:Int)/2^j=((k/2^j:Nat):Int):=by simp
 have h2:k/2^j<9223372036854775808:=Nat.lt_of_le_of_lt (Nat.div_le_self _ _) hk
 have e2:=z6x (k/2^j) 1 h2 (by omega)
 rw[e1,show(1:Int)=((1:Nat):Int)from rfl,e2,Qp7,Qh8]
 rcases Qm3 (k/2^j)with h|h<;>rw[h]<;>decide
theorem j8x {w:World} {e:TypeId} {v:Value} {xs:List Value} {i:Nat} {u:Value} (h:Own w e v xs) (hi:i<xs.length) (hu:xs[i]=u):Own w e v (xs.set i u):=by
 rw[←hu,List.set_getElem_self];exact h
theorem u7k {E:Nat→Prop} {w:World} {g off n c:Nat} {ys:List Int} (h:Own w 3 (.slice (some ⟨g,off,none⟩) n c) (ys.map I64)) (hE:E g):Cl E w (.slice (some ⟨g,off,none⟩) n c) ys:=by
 have hl:=h.len
 obtain⟨A,cap,e,h1,h2⟩:=h.rd
 simp only[Qa9]at hl
 injection e with e1 e2 e3
 subst e1 e2 e3
 refine⟨_,_,rfl,h1,h2.mono (fun b hb=>?_)⟩
 have hb':g=b:=by simpa[Value.ownBlock]using hb
 subst hb'
 exact⟨h.ty0 rfl (by decide),hE⟩
theorem St.later {E:Nat→Prop} {w w':World} {p g:Nat} {mv cv:Value} {nx:Int} {cs:List (List Int)} (h:St E w p mv nx cv cs) (hk:Kp (fun b=>b=g) w w') (hg:w.heap.size≤g):St E w' p mv nx cv cs:=
 h.kp hk (fun e=>by have:=h.lt;omega) (fun b hb e=>h.ne_blk hg (by rw[hb,e])) (fun b hb e=>by have:=hb.lt;omega) (fun _ _ h=>h)
theorem x1p {E:Nat→Prop} {p:Nat} {mv cv:Value} {nx s:Int} {cs:List (List Int)} {wo wr w5:World} {xg xo n xc g off n' c':Nat} {o:Obj} {ys:List Int} (h:St E wo p mv nx cv cs) (hk:Kp (fun b=>b=xg) wo wr) (hx:wo.heap.size≤xg)
 (hE:∀b,wo.heap.size≤b→E b) (hg:(wr.alloc o).drew.grownBy w5 (Value.slice (some ⟨xg,xo,none⟩) n xc).ownBlock) (hat:(Value.slice (some ⟨xg,xo,none⟩) n xc).ownBlock=some g∨g=(wr.alloc o).drew.heap.size)
 (hown:Own w5 3 (.slice (some ⟨g,off,none⟩) n' c') (ys.map I64++[I64 s])) (hn:cs.length<1000000000000):
 Calls Tryz.prog 154 #[.pointer (some ⟨p,0,none⟩),.slice (some ⟨g,off,none⟩) n' c'] w5 fun e w'=>e=.returned (.tuple #[])∧∃cv',St E w' p mv nx cv' (cs++[ys++[s]])∧Stp p wo cv w' cv':=by
 have hk5:Kp (fun b=>b=xg) wo w5:=((hk.alloc o).drew).grown hg (fun g e _=>by simpa[Value.ownBlock]using e.symm)
 have hge:wo.heap.size≤g:=by
  rcases hat with e|e
  ·simp[Value.ownBlock]at e;omega
  ·have:=hk.size
   simp at e;omega
 refine(j5c p mv cv _ nx (ys++[s]) cs w5 (h.later hk5 hx) (u7k (by rw[Qd4];exact hown) (hE g hge)) hn).mono ?_
 rintro e w' ⟨he,cv',s1,t1⟩
 exact⟨he,cv',s1,Stp.trans (cv':=cv) ⟨hk5.mono (fun k hk e=>by omega),fun g hg=>.inl hg⟩ t1⟩
theorem z4z {w:World} {g i:Nat} {t:TypeId} {cs:Array Value} {u:Value} (h:Blk w g t cs) (hu:cs[i]? =some u):w.setCell ⟨g,i,none⟩ u=w:=by
 have hh:w.heap.modify g (fun o=>match o with
  |.cells c elem frozen=>.cells (if(none:Option Nat).isSome then c else c.setIfInBounds i u) elem frozen
  |o=>o)=w.heap:=by
  apply Array.ext_getElem?
  intro k
  rw[Ql5]
  by_cases hk:g=k
  ·subst hk
   rw[if_pos rfl,h]
   simp only[Qg1,Option.isSome_none,Qj6,if_false]
   congr 2
   apply Array.ext_getElem?
   intro j
   rw[Qi5]
   by_cases hj:i=j
   ·subst hj
    have:=(Array.getElem?_eq_some_iff.1 hu).1
    rw[if_pos rfl,if_pos this,hu]
   ·rw[if_neg hj]
  ·rw[if_neg hk]
 show{w with heap:=_}=w
 exact congrArg (fun x=>{w with heap:=x}) hh
theorem u7g {E:Nat→Prop} {w:World} {ab ao n c:Nat} {l:List Int} (h:Cl E w (.slice (some ⟨ab,ao,none⟩) n c) l) {i:Nat} (hi:i<l.length):w.cell? ⟨ab,ao+i,none⟩=some (I64 l[i]):=by
 obtain⟨A,c',e,_,h2⟩:=h
 injection e with e1
 subst e1
 obtain⟨b,off,e,_,hc⟩:=h2 (by omega)
 cases e
 exact hc i hi
theorem v0g {E:Nat→Prop} (p bw bc:Nat) (mv:Value) (nx c:Int):Does 156 [.pointer (some ⟨bw,0,none⟩),.pointer (some ⟨bc,0,none⟩)] (fun x y=>[-x,-y,c]) E p mv nx (fun w'=>Blk w' bw 160 #[.pointer (some ⟨p,0,none⟩)]∧Blk w' bc 3 #[I64 c]):=
 fun x y w cv cs h1 h2 h3 h4 hW hs hE hn=>k6k p bw bc mv cv nx x y c cs w hs hE hn hW.1 hW.2 h1 h2 h3 h4
theorem v1b {E:Nat→Prop} (p bw bc:Nat) (mv:Value) (nx c:Int) (hc: -1000000000≤c) (hc':c≤1000000000):Does 157 [.pointer (some ⟨bw,0,none⟩),.pointer (some ⟨bc,0,none⟩)] (fun x y=>[x,y,-c]) E p mv nx (fun w'=>Blk w' bw 160 #[.pointer (some ⟨p,0,none⟩)]∧Blk w' bc 3 #[I64 c]):=
 fun x y w cv cs _ _ _ _ hW hs hE hn=>k7t p bw bc mv cv nx x y c cs w hs hE hn hW.1 hW.2 hc hc'
theorem k2c {E:Nat→Prop} {p:Nat} {mv cv:Value} {nx:Int} {cs:List (List Int)} {w:World} {vals:Array Value} {n:Nat} (xs:List Int) (h:St E w p mv nx cv cs) (hE:∀b,w.heap.size≤b→E b) (hv:vals=(xs.map I64).toArray) (hn:xs.length=n) (hc:cs.length<1000000000000):
 Calls Tryz.prog 154 #[.pointer (some ⟨p,0,none⟩),.slice (some ⟨w.heap.size,0,none⟩) n n] (w.alloc (.cells vals 3)).drew fun e w'=>e=.returned (.tuple #[])∧∃cv',St E w' p mv nx cv' (cs++[xs])∧Stp p w cv w' cv':=by
 subst hn
 refine(j5c p mv cv _ nx xs cs _ ((h.alloc _).drewN 1) (Cl.of_blk (Blk.new w 3 vals) hv (hE _ (Qb8 _))) hc).mono ?_
 rintro e w' ⟨he,cv',s1,t1⟩
 exact⟨he,cv',s1,(((Stp.refl p w cv).alloc _).drewN 1).trans t1⟩
set_option maxRecDepth 100000 in
set_option maxHeartbeats 1600000 in
theorem u2u {E F:Nat→Prop} (p:Nat) (mv cv:Value) (nx:Int) (A:Option Addr) (c:Nat) (l:List Int) (cs:List (List Int)) (w:World)
 (h:St E w p mv nx cv cs) (hE:∀b,w.heap.size≤b→E b) (hn:cs.length<900000000) (hl:l.length=2∨l.length=3)
 (hr:Cl F w (.slice A l.length c) l) (hbd:∀x∈l,-1000000000≤x∧x≤1000000000) (h0:0≤nx) (h1:nx≤1000000):
 Calls Tryz.prog 127 #[.pointer (some ⟨p,0,none⟩),.slice A l.length c] w fun e w'=>e=.returned (.tuple #[I64 nx,I64 (nx+1)])∧
  ∃cv',St E w' p mv (nx+2) cv' (cs++q7y l nx (nx+1))∧Stp p w cv w' cv':=by
 obtain⟨i0,hi,hz0,hz1,hz2⟩:=info_parts q6a
 have HI:=Lib.hid (And.intro hi (And.intro hz0 (And.intro hz1 hz2)))
 clear hi hz0 hz1 hz2
 have HS:=Lib.hid h
 have HE:=Lib.hid hE
 have HR:=Lib.hid hr
 have HBD:=Lib.hid hbd
 have HL:=Lib.hid hl
 obtain⟨vs,hp,-⟩:=h
 have hlt:=hp.lt
 have HP:=Lib.hid hp
 clear hE hr hbd hl hp
 go_enter Tryz.func127,Tryz.ntmps127
 go_wp2_with fail
 obtain⟨W,hW⟩:∃W:World,W=((w.alloc (.cells #[.pointer (some ⟨p,0,none⟩)] 160)).alloc (.cells #[.slice A l.length c] 34)).alloc (.cells #[.int .i64 0] 3):=⟨_,rfl⟩
 rw[←hW]
 have hpw:Blk W p 163 #[mv,cv,I64 nx]:=by rw[hW];exact((HP.out.alloc _).alloc _).alloc _
 have hbw:Blk W w.heap.size 160 #[.pointer (some ⟨p,0,none⟩)]:=by rw[hW];exact((Blk.new w _ _).alloc _).alloc _
 have hbc:Blk W (w.heap.size+1+1) 3 #[.int .i64 0]:=by rw[hW];simpa using Blk.new ((w.alloc (.cells #[.pointer (some ⟨p,0,none⟩)] 160)).alloc (.cells #[.slice A l.length c] 34)) 3 #[.int .i64 0]
 have c0:=hbw.cell 0
 have c1:=hbc.cell 0
 have f1:=hbc.frozen 0
 simp only[Qa5,Qa4]at c0 c1
 have HPW:=Lib.hid hpw
 have HW:=Lib.hid hW
 have n1:¬w.heap.size=p:=by omega
 have n2:¬p=w.heap.size:=by omega
 have n3:¬w.heap.size+1+1=p:=by omega
 have n4:¬p=w.heap.size+1+1:=by omega
 have n5:¬w.heap.size+1+1=w.heap.size:=by omega
 have n6:¬w.heap.size=w.heap.size+1+1:=by omega
 clear hpw hW hbw hbc
 go_region_held3 (fun w'=>w'.cell? ⟨w.heap.size,0,none⟩=some (.pointer (some ⟨p,0,none⟩))) (go_keep)
  (first|(go_at_call 152;refine(k2s p mv cv nx _ ?_ h0 (by omega)).mono ?_;(exact HPW.out.drew);rintro e w' ⟨rfl,rfl⟩)|(go_at_call 152;refine(k2s p mv cv (nx+1) _ ?_ (by omega) (by omega)).mono ?_;(exact HPW.out.drew.set_ 2 _);rintro e w' ⟨rfl,rfl⟩))
 obtain⟨W1,hW1⟩:∃W1:World,W1=(((W.setCell ⟨p,2,none⟩ (I64 (nx+1))).setCell ⟨p,2,none⟩ (I64 (nx+1+1))).setCell ⟨w.heap.size+1+1,0,none⟩ (.int .i64 (nx+1))).drew:=⟨_,rfl⟩
 rw[←hW1]
 have hk1:Kp (fun k=>k=p) w W1:=by
  rw[hW1,HW.out]
  exact(((((((Kp.refl (fun k=>k=p) w).alloc _).alloc _).alloc _).setCell (p:=⟨p,2,none⟩) (fun _=>rfl) _).setCell (p:=⟨p,2,none⟩) (fun _=>rfl) _).setCell (p:=⟨w.heap.size+1+1,0,none⟩) (fun h=>absurd (show w.heap.size+1+1<w.heap.size from h) (by omega)) _).drew
 have hs1:St E W1 p mv (nx+2) cv cs:=HS.out.next hk1 (by
  rw[hW1,show nx+2=nx+1+1 by omega]
  exact(((HPW.out.set_ 2 (I64 (nx+1))).set_ 2 (I64 (nx+1+1))).far n4 _).drew)
 have hbw1:Blk W1 w.heap.size 160 #[.pointer (some ⟨p,0,none⟩)]:=by
  have h1:Blk W w.heap.size 160 #[.pointer (some ⟨p,0,none⟩)]:=by rw[HW.out];exact((Blk.new w _ _).alloc _).alloc _
  rw[hW1];exact(((h1.far n1 _).far n1 _).far n6 _).drew
 have hbl1:Blk W1 (w.heap.size+1) 34 #[.slice A l.length c]:=by
  have h1:Blk W (w.heap.size+1) 34 #[.slice A l.length c]:=by rw[HW.out];exact(by simpa using Blk.new (w.alloc (.cells #[.pointer (some ⟨p,0,none⟩)] 160)) 34 #[.slice A l.length c]:Blk _ _ _ _).alloc _
  rw[hW1];exact(((h1.far (by simp;omega) _).far (by simp;omega) _).far (by simp) _).drew
 have hbc1:Blk W1 (w.heap.size+1+1) 3 #[I64 (nx+1)]:=by
  have h1:Blk W (w.heap.size+1+1) 3 #[.int .i64 0]:=by rw[HW.out];simpa using Blk.new ((w.alloc (.cells #[.pointer (some ⟨p,0,none⟩)] 160)).alloc (.cells #[.slice A l.length c] 34)) 3 #[.int .i64 0]
  rw[hW1];exact(((h1.far n3 _).far n3 _).set_ 0 _).drew
 have hcl1:Cl F W1 (.slice A l.length c) l:=HR.out.kp hk1 (fun b hb e=>hb.ne_blk HP.out (by decide) e) (fun _ _ h=>h)
 have hsz1:w.heap.size+1+1<W1.heap.size:=hbc1.lt
 have hbln:cv.ownBlock≠some (w.heap.size+1):=HS.out.ne_blk (by omega)
 have hE1:∀b,W1.heap.size≤b→E b:=fun b hb=>HE.out b (by omega)
 have c1:=hbl1.cell 0
 simp only[Qa5,Qa4]at c1
 obtain⟨m,hm,hm8⟩:∃m,m=2^l.length∧m≤8:=⟨_,rfl,by rcases HL.out with e|e<;>rw[e]<;>decide⟩
 have HK1:=Lib.hid hk1
 have HS1:=Lib.hid hs1
 have HBW:=Lib.hid hbw1
 have HBL:=Lib.hid hbl1
 have HBC:=Lib.hid hbc1
 have HC1:=Lib.hid hcl1
 have HE1:=Lib.hid hE1
 have HBN:=Lib.hid hbln
 have HM:=Lib.hid hm
 have hl3:l.length≤3:=by rcases HL.out with e|e<;>omega
 clear hk1 hs1 hbw1 hbl1 hbc1 hcl1 hE1 hbln hW1 hm c0 f1 n1 n2 n3 n4 n5 n6
 go_wp2_with fail
 have e16:wrap64 ((2:Int)^l.length)=(m:Int):=by rw[HM.out];rcases HL.out with e|e<;>rw[e]<;>unfold wrap64<;>simp
 rw[e16]
 clear e16 c1
 go_loopw [17] (fun i wr=>∃k:Nat,i=.int .i64 k∧k≤m∧∃cv',St E wr p mv (nx+2) cv' (cs++(List.range k).map (y1k l nx))∧Stp p W1 cv wr cv') (fun i _=>m-(intOf i).toNat)
 case atStart=>exact⟨0,rfl,Qc1 _,cv,by simpa using HS1.out,Stp.refl _ _ _⟩
 case round=>
  obtain⟨k,rfl,hk,cv1,s1,t1⟩:=hrel
  have c1:=(q4t HBL.out HS1.out HBN.out t1).cell 0
  simp only[Qa5,Qa4]at c1
  by_cases hlt:k<m
  ·obtain⟨A',c',e1,_,hrd⟩:=q7n HC1.out HS1.out t1
   obtain⟨rfl,rfl⟩:A'=A∧c'=c:=by simp at e1;exact⟨e1.1.symm,e1.2.symm⟩
   obtain⟨ab,ao,rfl,_,_⟩:=hrd (by rcases HL.out with e|e<;>omega)
   have HRD:=Lib.hid hrd
   have HSr:=Lib.hid s1
   have HTr:=Lib.hid t1
   clear e1 hrd s1 t1
   go_wp2_with fail
   refine(k3k ab ao c' l _ HRD.out (by omega)).mono ?_
   rintro e w2 ⟨xA,xc,rfl,hown2,hk2,hg2⟩
   obtain⟨xg,xo,rfl⟩:=hown2.addr (by rcases HL.out with e|e<;>omega)
   have hxg:wr.heap.size≤xg:=hg2 xg rfl
   have HO2:=Lib.hid hown2
   have HK2:=Lib.hid hk2
   have HG2:=Lib.hid hg2
   clear hown2 hk2 hg2 c1
   go_wp2_with fail
   obtain⟨wo,rfl⟩:∃wo:World,wo=wr:=⟨_,rfl⟩
   go_loopw [24] (fun i wr=>∃j:Nat,i=.int .i64 j∧j≤l.length∧Own wr 3 (.slice (some ⟨xg,xo,none⟩) l.length xc) ((z5s l k j).map I64)∧Kp (fun b=>b=xg) w2 wr) (fun i _=>l.length-(intOf i).toNat)
   case atStart=>exact⟨0,rfl,Qc1 _,by rw[x9l];exact HO2.out,Kp.refl _ _⟩
   case round=>
    obtain⟨j,rfl,hj,o3,k3⟩:=hrel
    by_cases hlj:j<l.length
    ·obtain⟨cj,fj⟩:=o3.at_ (i:=j) (by simpa[z5s]using hlj)
     rw[Qg3,k0l l k j hlj]at cj
     have hsn:=x7p l k j hlj
     obtain⟨bj1,bj2⟩:=HBD.out _ (Qc7 hlj)
     generalize hgx:l[j]=x at cj hsn bj1 bj2
     have HX:=Lib.hid hgx
     clear hgx
     have HSN:=Lib.hid hsn
     have HO3:=Lib.hid o3
     have HK3:=Lib.hid k3
     have hbt:=k9c k j (by omega)
     have HBT:=Lib.hid hbt
     clear o3 k3 hsn hbt
     go_wp2_with fail
     ·have hb:(bits BinOp.and IntKind.i64 ((k:Int)/2^j) 1==1)=true:=by assumption
      go_roundw
      case rel=>exact⟨j+1,by go_num,by omega,by rw[HSN.out,List.map_set,sgn,if_pos (by rw[←HBT.out];exact hb)];exact HO3.out.set_ (by simpa[z5s]using hlj) _,HK3.out.setCell (fun _=>rfl) _⟩
      case measure=>simp[intOf];omega
     ·have hb:(bits BinOp.and IntKind.i64 ((k:Int)/2^j) 1==1)=false:=by assumption
      go_roundw
      case rel=>exact⟨j+1,by go_num,by omega,by rw[HSN.out,List.map_set,sgn,if_neg (by rw[←HBT.out,hb];simp)];exact j8x HO3.out (by simpa[z5s]using hlj) (by rw[Qg3,k0l l k j hlj,HX.out]),HK3.out⟩
      case measure=>simp[intOf];omega
    ·obtain rfl:j=l.length:=by omega
     have HO3:=Lib.hid o3
     have HK3:=Lib.hid k3
     clear o3 k3
     go_wp2_with fail
     refine(k4s k (by omega) _).mono ?_
     rintro e w4 ⟨rfl,rfl⟩
     have HBWo:=Lib.hid (q1h HBW.out (by decide) (by decide) HS1.out HTr.out)
     have c2:wr.cell? ⟨w.heap.size,0,none⟩=some (.pointer (some ⟨p,0,none⟩)):=by
      have h2:=(q1h HBW.out (by decide) (by decide) HS1.out HTr.out).cell 0
      have h3:=HK2.out.cell (p:=⟨w.heap.size,0,none⟩) (by have:=HTr.out.size;simp;omega) (fun h=>h)
      have h4:=HK3.out.cell (p:=⟨w.heap.size,0,none⟩) (by have:=HTr.out.size;have:=HK2.out.size;simp;omega) (fun h=>by have:=HTr.out.size;simp at h;omega)
      exact h4.trans (h3.trans h2)
     by_cases hodd:pop8 k%2=1
     ·have ht:((pop8 k:Int)%2==1)=true:=by simp;omega
      go_wp2_with fail
      have hkx:Kp (fun b=>b=xg) wo wr:=(HK2.out.mono (fun _ _ h=>h.elim)).trans HK3.out (fun _ _ h=>h)
      have hs4:St E wr p mv (nx+2) cv1 (cs++(List.range k).map (y1k l nx)):=HSr.out.later hkx hxg
      have HKX:=Lib.hid hkx
      have HS4:=Lib.hid hs4
      have hlw:w.heap.size<wo.heap.size:=by have:=HTr.out.size;omega
      have hlr:wo.heap.size≤wr.heap.size:=hkx.size
      have HLX:=Lib.hid (show((z5s l k l.length).map I64).length=l.length by simp[z5s])
      have hag:¬some w.heap.size=(Value.slice (some ⟨xg,xo,none⟩) l.length xc).ownBlock:=by simp[Value.ownBlock];omega
      have HAG:=Lib.hid hag
      have HCP:=Lib.hid (show∀o,(wr.alloc o).drew.cell? ⟨w.heap.size,0,none⟩=some (.pointer (some ⟨p,0,none⟩))from fun o=>(World.cell?_alloc_lt wr o ⟨w.heap.size,0,none⟩ (by simp;omega)).trans c2)
      have HCN:=Lib.hid (show(cs++(List.range k).map (y1k l nx)).length<1000000000000 by simp;omega)
      clear hkx hs4 hag
      go_region_held3 (fun w'=>w'.cell? ⟨w.heap.size,0,none⟩=some (.pointer (some ⟨p,0,none⟩))) (first|go_keep|(exact hgrow.cell (a:=⟨w.heap.size,0,none⟩) (HCP.out _) HAG.out)|(exact(q1h HBWo.out (by decide) (by decide) HSr.out t6).cell 0))
       (first
        |(refine q4g _ (by rfl) _ _ _ (by rfl) 3 i0 _ 8 Tryz.underlying34 HI.out.1 HI.out.2.1 HI.out.2.2.1 HI.out.2.2.2 rfl _ _ l.length HLX.out (by rfl) ((HO3.out.alloc _).drew) ⟨wr.heap.size,0,none⟩ 1 (I64 nx) (by rfl) (by simp) rfl (by simp[maxLen];omega) (by omega) ?_;intro xg2 xo2 xc2 w5 hown5 hgrow hat5)
        |(go_at_call 154;refine(x1p HSr.out HKX.out hxg (fun b hb=>HE.out b (Qc0 (Nat.le_of_lt hlw) hb)) hgrow hat5 hown5 HCN.out).mono ?_;rintro e w6 ⟨rfl,cv6,s6,t6⟩))
      have hcx:y1k l nx k=z5s l k l.length++[nx]:=by unfold y1k u7o;rw[if_pos (by simpa using hodd)]
      have HR6:=Lib.hid (show St E w6 p mv (nx+2) cv6 (cs++(List.range (k+1)).map (y1k l nx)) by rw[Qe8,Qd4,←Qc4,Qc6,Qj9,hcx];exact s6)
      have HT6:=Lib.hid (HTr.out.trans t6)
      clear hcx s6 t6 hgrow hat5 hown5
      go_wp2_with fail
      go_roundw
      case rel=>exact⟨k+1,by go_num,by omega,cv6,HR6.out,HT6.out⟩
      case measure=>simp[intOf];omega
     ·have ht:((pop8 k:Int)%2==1)=false:=by simp;omega
      have wneg:IntKind.i64.wrap (-nx)= -nx:=IntWalk.i64_in _ (by omega)
      go_wp2_with fail
      have hkx:Kp (fun b=>b=xg) wo wr:=(HK2.out.mono (fun _ _ h=>h.elim)).trans HK3.out (fun _ _ h=>h)
      have hs4:St E wr p mv (nx+2) cv1 (cs++(List.range k).map (y1k l nx)):=HSr.out.later hkx hxg
      have HKX:=Lib.hid hkx
      have HS4:=Lib.hid hs4
      have hlw:w.heap.size<wo.heap.size:=by have:=HTr.out.size;omega
      have hlr:wo.heap.size≤wr.heap.size:=hkx.size
      have HLX:=Lib.hid (show((z5s l k l.length).map I64).length=l.length by simp[z5s])
      have hag:¬some w.heap.size=(Value.slice (some ⟨xg,xo,none⟩) l.length xc).ownBlock:=by simp[Value.ownBlock];omega
      have HAG:=Lib.hid hag
      have HCP:=Lib.hid (show∀o,(wr.alloc o).drew.cell? ⟨w.heap.size,0,none⟩=some (.pointer (some ⟨p,0,none⟩))from fun o=>(World.cell?_alloc_lt wr o ⟨w.heap.size,0,none⟩ (by simp;omega)).trans c2)
      have HCN:=Lib.hid (show(cs++(List.range k).map (y1k l nx)).length<1000000000000 by simp;omega)
      clear hkx hs4 hag
      go_region_held3 (fun w'=>w'.cell? ⟨w.heap.size,0,none⟩=some (.pointer (some ⟨p,0,none⟩))) (first|go_keep|(exact hgrow.cell (a:=⟨w.heap.size,0,none⟩) (HCP.out _) HAG.out)|(exact(q1h HBWo.out (by decide) (by decide) HSr.out t6).cell 0))
       (first
        |(refine q4g _ (by rfl) _ _ _ (by rfl) 3 i0 _ 8 Tryz.underlying34 HI.out.1 HI.out.2.1 HI.out.2.2.1 HI.out.2.2.2 rfl _ _ l.length HLX.out (by rfl) ((HO3.out.alloc _).drew) ⟨wr.heap.size,0,none⟩ 1 (I64 (-nx)) (by rfl) (by simp) rfl (by simp[maxLen];omega) (by omega) ?_;intro xg2 xo2 xc2 w5 hown5 hgrow hat5)
        |(go_at_call 154;refine(x1p HSr.out HKX.out hxg (fun b hb=>HE.out b (Qc0 (Nat.le_of_lt hlw) hb)) hgrow hat5 hown5 HCN.out).mono ?_;rintro e w6 ⟨rfl,cv6,s6,t6⟩))
      have hcx:y1k l nx k=z5s l k l.length++[-nx]:=by unfold y1k u7o;rw[if_neg (by simpa using hodd)]
      have HR6:=Lib.hid (show St E w6 p mv (nx+2) cv6 (cs++(List.range (k+1)).map (y1k l nx)) by rw[Qe8,Qd4,←Qc4,Qc6,Qj9,hcx];exact s6)
      have HT6:=Lib.hid (HTr.out.trans t6)
      clear hcx s6 t6 hgrow hat5 hown5
      go_wp2_with fail
      go_roundw
      case rel=>exact⟨k+1,by go_num,by omega,cv6,HR6.out,HT6.out⟩
      case measure=>simp[intOf];omega
  ·obtain rfl:k=m:=by omega
   have hbw:=q1h HBW.out (by decide) (by decide) HS1.out t1
   have hbc:=q1h HBC.out (by decide) (by decide) HS1.out t1
   have hbl:=q4t HBL.out HS1.out HBN.out t1
   have hcl:=q7n HC1.out HS1.out t1
   have hbn:cv1.ownBlock≠some (w.heap.size+1):=fun e=>by
    rcases t1.2 _ e with h|h
    ·exact HBN.out h
    ·omega
   have hE2:∀b,wr.heap.size≤b→E b:=fun b hb=>HE1.out b (Qc0 t1.size hb)
   have hW2:∀w' cv',Stp p wr cv1 w' cv'→(Blk w' w.heap.size 160 #[.pointer (some ⟨p,0,none⟩)]∧Blk w' (w.heap.size+1+1) 3 #[I64 (nx+1)]):=fun w' cv' t=>
    ⟨q1h hbw (by decide) (by decide) s1 t,q1h hbc (by decide) (by decide) s1 t⟩
   have hcn:(cs++(List.range k).map (y1k l nx)).length<1000000000:=by simp;omega
   have hl1000:l.length≤1000:=by omega
   have HWW:=Lib.hid hW2
   have HBW2:=Lib.hid hbw
   have HBC2:=Lib.hid hbc
   have HBL2:=Lib.hid hbl
   have HCL2:=Lib.hid hcl
   have HBN2:=Lib.hid hbn
   have HE2:=Lib.hid hE2
   have HSr:=Lib.hid s1
   have HTr:=Lib.hid t1
   have HCN:=Lib.hid hcn
   clear c1 s1 t1 hbw hbc hbl hcl hbn hE2 hW2 hcn
   go_wp2_with fail
   refine(y1c 156 p (w.heap.size+1) ⟨w.heap.size,0,none⟩ ⟨w.heap.size+1+1,0,none⟩ (fun x y=>[-x,-y,nx+1]) mv cv1 (nx+2) A c l _ _ _ (enters_of Tryz.func156 (by kernel_rfl) rfl) (v0g p w.heap.size (w.heap.size+1+1) mv (nx+2) (nx+1)) HWW.out HSr.out HE2.out HCN.out hl1000 HBL2.out HBN2.out HCL2.out HBD.out).mono ?_
   rintro e w3 ⟨rfl,cv3,s3,t3⟩
   have hbw:=q1h HBW2.out (by decide) (by decide) HSr.out t3
   have hbc:=q1h HBC2.out (by decide) (by decide) HSr.out t3
   have hbl:=q4t HBL2.out HSr.out HBN2.out t3
   have hcl:=q7n HCL2.out HSr.out t3
   have hbn:cv3.ownBlock≠some (w.heap.size+1):=fun e=>by
    rcases t3.2 _ e with h|h
    ·exact HBN2.out h
    ·have:=HTr.out.size
     omega
   have hE3:∀b,w3.heap.size≤b→E b:=fun b hb=>HE2.out b (Qc0 t3.size hb)
   have hW3:∀w' cv',Stp p w3 cv3 w' cv'→(Blk w' w.heap.size 160 #[.pointer (some ⟨p,0,none⟩)]∧Blk w' (w.heap.size+1+1) 3 #[I64 (nx+1)]):=fun w' cv' t=>
    ⟨q1h hbw (by decide) (by decide) s3 t,q1h hbc (by decide) (by decide) s3 t⟩
   have hcn3:(cs++(List.range k).map (y1k l nx)++(prs l l.length).map fun q=>[-q.1,-q.2,nx+1]).length<1000000000:=by
    have h1:=x8h l l.length
    have h2:l.length*l.length≤3*3:=Nat.mul_le_mul hl3 hl3
    simp only[Qa3,Qa9,Qg4]
    omega
   have c3:=hbl.cell 0
   simp only[Qa5,Qa4]at c3
   have HWW3:=Lib.hid hW3
   have HBW3:=Lib.hid hbw
   have HBC3:=Lib.hid hbc
   have HBL3:=Lib.hid hbl
   have HCL3:=Lib.hid hcl
   have HBN3:=Lib.hid hbn
   have HE3:=Lib.hid hE3
   have HS3:=Lib.hid s3
   have HT3:=Lib.hid (HTr.out.trans t3)
   have HCN3:=Lib.hid hcn3
   clear s3 t3 hbw hbc hbl hcl hbn hE3 hW3 hcn3
   rcases HL.out with e2|e2
   ·have ht:((l.length:Int)==2)=true:=by simp;omega
    have HE2':=Lib.hid e2
    clear e2
    have hlp:0<l.length:=by have:=HE2'.out;omega
    obtain⟨ab,ao,rfl⟩:∃ab ao,A=some ⟨ab,ao,none⟩:=by
     obtain⟨A',c',e,_,hrd⟩:=HCL3.out
     injection e with e1
     subst e1
     obtain⟨b,off,e,_⟩:=hrd hlp
     exact⟨b,off,e⟩
    have hl1:1<l.length:=by have:=HE2'.out;omega
    have HA0:=Lib.hid (fun(w':World) (h:Cl F w' (.slice (some ⟨ab,ao,none⟩) l.length c) l)=>u7g h hlp)
    have HA1:=Lib.hid (fun(w':World) (h:Cl F w' (.slice (some ⟨ab,ao,none⟩) l.length c) l)=>u7g h hl1)
    generalize hx0:l[0]=x0 at HA0
    generalize hx1:l[1]=x1 at HA1
    have HX0:=Lib.hid hx0
    have HX1:=Lib.hid hx1
    have i0':(0:Int)<(l.length:Int):=by omega
    have i1':(1:Int)<(l.length:Int):=by omega
    have wneg:IntKind.i64.wrap (-(nx+1))= -(nx+1):=IntWalk.i64_in _ (by omega)
    clear hx0 hx1
    have q1:w3.cell? ⟨w.heap.size,0,none⟩=some (.pointer (some ⟨p,0,none⟩)):=HBW3.out.cell 0
    have q2:w3.cell? ⟨w.heap.size+1+1,0,none⟩=some (I64 (nx+1)):=HBC3.out.cell 0
    have q3:w3.cell? ⟨ab,ao,none⟩=some (I64 x0):=HA0.out w3 HCL3.out
    have z1:=World.new_ne w3 _ q1
    have z2:=World.new_ne w3 _ q2
    have z3:=World.new_ne w3 _ q3
    have z4:=World.new_ne w3 _ c3
    go_wp2_with fail
    go_region_held3 (fun w'=>w'.cell? ⟨w.heap.size,0,none⟩=some (.pointer (some ⟨p,0,none⟩))∧w'.cell? ⟨w.heap.size+1,0,none⟩=some (.slice (some ⟨ab,ao,none⟩) l.length c)∧w'.cell? ⟨ab,ao,none⟩=some (I64 x0)∧w'.cell? ⟨w.heap.size+1+1,0,none⟩=some (I64 (nx+1)))
     (first|go_keep|(exact⟨(q1h HBW3.out (by decide) (by decide) HS3.out t6).cell 0,(q4t HBL3.out HS3.out HBN3.out t6).cell 0,HA0.out w6 (q7n HCL3.out HS3.out t6),(q1h HBC3.out (by decide) (by decide) HS3.out t6).cell 0⟩))
     (first|(go_at_call 154;refine(k2c [x0,-(nx+1)] HS3.out HE3.out rfl rfl (Nat.lt_trans HCN3.out (by omega))).mono ?_;rintro e w6 ⟨rfl,cv6,s6,t6⟩))
    have hbw:=q1h HBW3.out (by decide) (by decide) HS3.out t6
    have hbc:=q1h HBC3.out (by decide) (by decide) HS3.out t6
    have hbl:=q4t HBL3.out HS3.out HBN3.out t6
    have hcl:=q7n HCL3.out HS3.out t6
    have hbn:cv6.ownBlock≠some (w.heap.size+1):=fun e=>by
     rcases t6.2 _ e with h|h
     ·exact HBN3.out h
     ·have:=HT3.out.size
      omega
    have hE6:∀b,w6.heap.size≤b→E b:=fun b hb=>HE3.out b (Qc0 t6.size hb)
    have c6:=hbl.cell 0
    simp only[Qa5,Qa4]at c6
    have HBW6:=Lib.hid hbw
    have HBC6:=Lib.hid hbc
    have HBL6:=Lib.hid hbl
    have HCL6:=Lib.hid hcl
    have HBN6:=Lib.hid hbn
    have HE6:=Lib.hid hE6
    have HS6:=Lib.hid s6
    have HT6:=Lib.hid (HT3.out.trans t6)
    have q1:w6.cell? ⟨w.heap.size,0,none⟩=some (.pointer (some ⟨p,0,none⟩)):=HBW6.out.cell 0
    have q2:w6.cell? ⟨w.heap.size+1+1,0,none⟩=some (I64 (nx+1)):=HBC6.out.cell 0
    have q3:w6.cell? ⟨ab,ao+1,none⟩=some (I64 x1):=HA1.out w6 HCL6.out
    have z1:=World.new_ne w6 _ q1
    have z2:=World.new_ne w6 _ q2
    have z3:=World.new_ne w6 _ q3
    have z4:=World.new_ne w6 _ c6
    clear s6 t6 hbw hbc hbl hcl hbn hE6
    go_wp2_with fail
    go_region_held3 (fun w'=>w'.cell? ⟨w.heap.size,0,none⟩=some (.pointer (some ⟨p,0,none⟩))∧w'.cell? ⟨w.heap.size+1,0,none⟩=some (.slice (some ⟨ab,ao,none⟩) l.length c)∧w'.cell? ⟨ab,ao+1,none⟩=some (I64 x1)∧w'.cell? ⟨w.heap.size+1+1,0,none⟩=some (I64 (nx+1)))
     (first|go_keep|(exact⟨(q1h HBW6.out (by decide) (by decide) HS6.out t7).cell 0,(q4t HBL6.out HS6.out HBN6.out t7).cell 0,HA1.out w7 (q7n HCL6.out HS6.out t7),(q1h HBC6.out (by decide) (by decide) HS6.out t7).cell 0⟩))
     (first|(go_at_call 154;refine(k2c [x1,-(nx+1)] HS6.out HE6.out rfl rfl (by have:=HCN3.out;rw[Qa3];simp only[Qi1];omega)).mono ?_;rintro e w7 ⟨rfl,cv7,s7,t7⟩))
    have hbc7:=q1h HBC6.out (by decide) (by decide) HS6.out t7
    have c7:=hbc7.cell 0
    have f7:=hbc7.frozen 0
    simp only[Qa5,Qa4]at c7
    have HBC7:=Lib.hid hbc7
    have HS7:=Lib.hid s7
    have HT7:=Lib.hid (HT6.out.trans t7)
    clear s7 t7 hbc7
    go_wp2_with fail
    go_region
    rw[z4z HBC7.out rfl]
    go_wp2_with fail
    refine bodyPost_ret (v:=.tuple #[I64 nx,I64 (nx+1)]) (by simp[results,Tryz.results127,go_sem,c7]) rfl ⟨rfl,cv7,?_,?_⟩
    ·rw[q7y,if_pos HE2'.out,←HM.out,←Qc4,←Qc4]
     have h0:l.getD 0 0=x0:=by rw[←HX0.out,Qa1,Qa0 hlp];rfl
     have h1:l.getD 1 0=x1:=by rw[←HX1.out,Qa1,Qa0 hl1];rfl
     rw[h0,h1]
     have:=HS7.out.drewN 1
     rw[Qc4]at this
     exact this
    ·exact(Stp.trans (cv':=cv) ⟨HK1.out.mono (fun _ _ e=>.inl e),fun g h=>.inl h⟩ HT7.out).drewN 1
   ·have ht:((l.length:Int)==2)=false:=by simp;omega
    have HE2':=Lib.hid e2
    clear e2
    go_wp2_with fail
    refine(y1c 157 p (w.heap.size+1) ⟨w.heap.size,0,none⟩ ⟨w.heap.size+1+1,0,none⟩ (fun x y=>[x,y,-(nx+1)]) mv cv3 (nx+2) A c l _ _ _ (enters_of Tryz.func157 (by kernel_rfl) rfl) (v1b p w.heap.size (w.heap.size+1+1) mv (nx+2) (nx+1) (by omega) (by omega)) HWW3.out HS3.out HE3.out HCN3.out hl1000 HBL3.out HBN3.out HCL3.out HBD.out).mono ?_
    rintro e w5 ⟨rfl,cv5,s5,t5⟩
    have hbc5:=q1h HBC3.out (by decide) (by decide) HS3.out t5
    have c5:=hbc5.cell 0
    have f5:=hbc5.frozen 0
    simp only[Qa5,Qa4]at c5
    have HBC5:=Lib.hid hbc5
    have HS5:=Lib.hid s5
    have HT5:=Lib.hid (HT3.out.trans t5)
    clear hbc5 s5 t5
    go_wp2_with fail
    go_region
    rw[z4z HBC5.out rfl]
    go_wp2_with fail
    refine bodyPost_ret (v:=.tuple #[I64 nx,I64 (nx+1)]) (by simp[results,Tryz.results127,go_sem,c5]) rfl ⟨rfl,cv5,?_,?_⟩
    ·rw[q7y,if_neg (by rw[HE2'.out];decide),←HM.out,←Qc4,←Qc4]
     exact HS5.out.drewN 1
    ·exact(Stp.trans (cv':=cv) ⟨HK1.out.mono (fun _ _ e=>.inl e),fun g h=>.inl h⟩ HT5.out).drewN 1
end Go.Proofs.YteikjpbbhopkaaaGreatDoor
