/- Lemmas and contracts for the row. -/
import Derived.Test.YteikjpbbhopkaaaGreatDoorPkRowElimGatesJ
import Derived.Test.YteikjpbbhopkaaaGreatDoorPkRowElimGatesL
set_option linter.unusedVariables false
set_option linter.unusedSimpArgs false
set_option linter.unnecessarySimpa false
namespace Go.Proofs.YteikjpbbhopkaaaGreatDoor
open Go.RowKit Go.Shelf
attribute [local go_sem ↓] Go.wp_at_zero Go.wp_at_succ
abbrev q4v (a b:Int):Value:=.agg #[I64 a,I64 b]
theorem u8x (w:World):(zeroValue 118).run Tryz.prog w=.ok (q4v 0 0) w:=by kernel_rfl
def R0 (_:Value):Option (DataW Unit×List MemPlace):=some (.lit (.bool true),[])
def Fits (w:World) (m n:Nat):Prop:=∃D:DataW Unit,w.ownsMap Tryz.prog 3 R0 m n D
theorem Fits.kp {M:Nat→Prop} {w w':World} {m n:Nat} (h:Fits w m n) (hk:Kp M w w') (hm:¬M m):Fits w' m n:=by
 obtain⟨D,h⟩:=h
 have hlt:=h.lt
 obtain⟨es,clock,hb,F,hs,hD⟩:=h
 exact⟨D,es,clock,(hk.block m hlt hm).trans hb,F,hs,hD⟩
theorem Fits.upd {w w':World} {m n:Nat} (h:Fits w m n) (hn:n<maxLen) {k:Int} (hk: -9223372036854775808≤k∧k≤9223372036854775807) {v:Value} (hr:(Instr.mapUpdate 116 (.map (some m)) (.int .i64 k) v).run Tryz.prog w=.ok () w'):Fits w' m (n+1):=by
 obtain⟨D,h⟩:=h
 obtain⟨w2,hr2,h2,_⟩:=h.update (Go.Maps.int_keyed Tryz.underlying3) Tryz.underlying116 hn (key:=.int .i64 k) (val:=v) (kl:=.int .i64 k) (d:=.lit (.bool true)) (ps:=[]) (Go.Maps.keyOf_int_mk Tryz.underlying3 (by simp[Lit.wf];exact hk)) rfl
 rw[hr]at hr2
 injection hr2 with _ e
 subst e
 exact⟨_,h2⟩
theorem Kp.one_trans {m:Nat} {w w' w'':World} (h:Kp (· =m) w w') (h':Kp (· =m) w' w''):Kp (· =m) w w'':=h.trans h' (fun _ _ e=>e)
set_option maxRecDepth 100000 in
set_option maxHeartbeats 1600000 in
theorem x7e (m n:Nat) (f:Int→Option Value) (c x a b:Int) (w:World) (hm:q6r w m f) (hft:Fits w m n) (hn:n≤100000) (hf:(f (x.natAbs:Int)).getD (q4v 0 0)=q4v a b) (hx1: -65536≤x) (hx2:x≤65536)
 (ha: -1000000000000000000≤a∧a≤1000000000000000000) (hb: -1000000000000000000≤b∧b≤1000000000000000000) (hc: -1099511627776≤c∧c≤1099511627776):
 Calls Tryz.prog 73 #[.map (some m),I64 c,I64 x] w fun e w'=>e=.returned (.map (some m))∧q6r w' m (upd f (x.natAbs:Int) (if 0<x then q4v (a+c) b else q4v a (b+c)))∧Fits w' m (n+1)∧Kp (· =m) w w':=by
 have HLF:=Lib.hid (fun W=>u6s x W (by omega) (by omega))
 have hlk:=q9x (P:=Tryz.prog) 116 3 118 (q4v 0 0) Tryz.underlying116 Tryz.underlying3 u8x hm (x.natAbs:Int)
 rw[hf]at hlk
 obtain⟨ha1,ha2⟩:=ha
 obtain⟨hb1,hb2⟩:=hb
 obtain⟨hc1,hc2⟩:=hc
 have HM:=Lib.hid hm
 have HFt:=Lib.hid hft
 have hvb: -9223372036854775808≤(x.natAbs:Int)∧(x.natAbs:Int)≤9223372036854775807:=by omega
 have HVb:=Lib.hid hvb
 clear hm hf hft hvb
 generalize (x.natAbs:Int)=v at*
 by_cases hp:0<x
 ·rw[if_pos hp]
  obtain⟨w6,hr6,hm6,hg6,_⟩:=z0t (P:=Tryz.prog) 116 3 118 Tryz.underlying116 Tryz.underlying3 (show q6r (w.alloc (Obj.cells #[I64 (a+c),I64 b] 118)).drew m f from HM.out.kp ((Kp.refl (fun _=>False) w).alloc _).drew (fun h=>h)) v (q4v (a+c) b)
  have HK:=Lib.hid (show q6r w6 m (upd f v (q4v (a+c) b))∧Fits w6 m (n+1)∧Kp (· =m) w w6 from⟨hm6,(HFt.out.kp ((Kp.refl (fun _=>False) w).alloc _).drew (fun h=>h)).upd (by unfold maxLen;omega) HVb.out hr6,(((Kp.refl (· =m) w).alloc _).drew).grown hg6 (fun g e _=>by injection e with e;exact e.symm)⟩)
  have z1:(w.alloc (Obj.cells #[I64 (a+c),I64 b] 118)).cell? ⟨w.heap.size,0,none⟩=some (I64 (a+c)):=(Blk.new w _ _).cell 0
  have z2:(w.alloc (Obj.cells #[I64 (a+c),I64 b] 118)).cell? ⟨w.heap.size,1,none⟩=some (I64 b):=(Blk.new w _ _).cell 1
  have hk6:=(Kp.of_grown hg6)
  have hml:=HM.out.lt
  have y1:=(hk6.cell (p:=⟨w.heap.size,0,none⟩) (by simp) (fun e=>by injection e with e;simp at e;omega)).trans z1
  have y2:=(hk6.cell (p:=⟨w.heap.size,1,none⟩) (by simp) (fun e=>by injection e with e;simp at e;omega)).trans z2
  clear hm6 hg6 hk6 hml
  go_enter Tryz.func73,Tryz.ntmps73
  go_wp2_with fail
  refine(HLF.out _).mono ?_
  rintro e w1 ⟨rfl,rfl⟩
  go_wp2_with fail
  go_region_held3 (fun w'=>w'.cell? ⟨w.heap.size,0,none⟩=some (I64 (a+c))∧w'.cell? ⟨w.heap.size,1,none⟩=some (I64 b))
   (first|(exact⟨y1,y2⟩)|go_keep)
   (first|(go_at_call 74;refine(HLF.out _).mono ?_;rintro e w8 ⟨rfl,rfl⟩))
  all_goals
   go_wp2_with fail
   go_ret
   exact⟨rfl,HK.out.1,HK.out.2.1,HK.out.2.2⟩
 ·rw[if_neg hp]
  obtain⟨w6,hr6,hm6,hg6,_⟩:=z0t (P:=Tryz.prog) 116 3 118 Tryz.underlying116 Tryz.underlying3 (show q6r (w.alloc (Obj.cells #[I64 a,I64 (b+c)] 118)).drew m f from HM.out.kp ((Kp.refl (fun _=>False) w).alloc _).drew (fun h=>h)) v (q4v a (b+c))
  have HK:=Lib.hid (show q6r w6 m (upd f v (q4v a (b+c)))∧Fits w6 m (n+1)∧Kp (· =m) w w6 from⟨hm6,(HFt.out.kp ((Kp.refl (fun _=>False) w).alloc _).drew (fun h=>h)).upd (by unfold maxLen;omega) HVb.out hr6,(((Kp.refl (· =m) w).alloc _).drew).grown hg6 (fun g e _=>by injection e with e;exact e.symm)⟩)
  have z1:(w.alloc (Obj.cells #[I64 a,I64 (b+c)] 118)).cell? ⟨w.heap.size,0,none⟩=some (I64 a):=(Blk.new w _ _).cell 0
  have z2:(w.alloc (Obj.cells #[I64 a,I64 (b+c)] 118)).cell? ⟨w.heap.size,1,none⟩=some (I64 (b+c)):=(Blk.new w _ _).cell 1
  have hk6:=(Kp.of_grown hg6)
  have hml:=HM.out.lt
  have y1:=(hk6.cell (p:=⟨w.heap.size,0,none⟩) (by simp) (fun e=>by injection e with e;simp at e;omega)).trans z1
  have y2:=(hk6.cell (p:=⟨w.heap.size,1,none⟩) (by simp) (fun e=>by injection e with e;simp at e;omega)).trans z2
  clear hm6 hg6 hk6 hml
  go_enter Tryz.func73,Tryz.ntmps73
  go_wp2_with fail
  refine(HLF.out _).mono ?_
  rintro e w1 ⟨rfl,rfl⟩
  go_wp2_with fail
  go_region_held3 (fun w'=>w'.cell? ⟨w.heap.size,0,none⟩=some (I64 a)∧w'.cell? ⟨w.heap.size,1,none⟩=some (I64 (b+c)))
   (first|(exact⟨y1,y2⟩)|go_keep)
   (first|(go_at_call 74;refine(HLF.out _).mono ?_;rintro e w8 ⟨rfl,rfl⟩))
  all_goals
   go_wp2_with fail
   go_ret
   exact⟨rfl,HK.out.1,HK.out.2.1,HK.out.2.2⟩
theorem q6r.ne_cell {w:World} {m:Nat} {f:Int→Option Value} (h:q6r w m f) {b o:Nat} {v:Value} (hc:w.cell? ⟨b,o,none⟩=some v):b≠m:=by
 rintro rfl
 obtain⟨es,clock,hb,_⟩:=h
 simp[World.cell?,hb]at hc
theorem Rd.kpm {α:Type} {enc:α→Value} {w w':World} {m:Nat} {f:Int→Option Value} {A:Option Addr} {xs:List α} (h:Rd enc (· <w.heap.size) w A xs) (hm:q6r w m f) (hk:Kp (· =m) w w'):Rd enc (· <w'.heap.size) w' A xs:=fun hn=>by
 obtain⟨b,off,e,hb,hc⟩:=h hn
 have hne:=hm.ne_cell (hc 0 hn)
 exact⟨b,off,e,Qc2 hb hk.size,fun j hj=>(hk.cell (p:=⟨b,off+j,none⟩) hb hne).trans (hc j hj)⟩
def z3u (z:List (Int×Int)):Int→Option Value:=fun v=>if v∈q0h (z.map (·.2))then some (q4v (cfZ z v) (cfZ z (-v)))else none
theorem u0m {z:List (Int×Int)} {y:Int} (h:∀q∈z,q.2≠y):cfZ z y=0:=by
 induction z with
 |nil=>rfl
 |cons q t ih=>simp only[cfZ];rw[if_neg (h q (by simp)),ih (fun p hp=>h p (by simp[hp]))];rfl
theorem y8b (z:List (Int×Int)) (v:Int) (hv:0≤v):(z3u z v).getD (q4v 0 0)=q4v (cfZ z v) (cfZ z (-v)):=by
 unfold z3u
 by_cases h:v∈q0h (z.map (·.2))
 ·rw[if_pos h];rfl
 ·rw[if_neg h]
  have h0:∀q∈z,q.2≠v:=fun q hq e=>h (q4e.2 ⟨q.2,List.mem_map.2 ⟨q,hq,rfl⟩,by omega⟩)
  have h1:∀q∈z,q.2≠-v:=fun q hq e=>h (q4e.2 ⟨q.2,List.mem_map.2 ⟨q,hq,rfl⟩,by omega⟩)
  rw[u0m h0,u0m h1];rfl
theorem z2i (z:List (Int×Int)) (c x y:Int):cfZ (z++[(c,x)]) y=cfZ z y+if x=y then c else 0:=by
 rw[y4h];simp only[cfZ];omega
theorem x2e (z:List (Int×Int)) (c x:Int) (hx:x≠0) (hz:∀q∈z,q.2≠0):
 z3u (z++[(c,x)])=upd (z3u z) (x.natAbs:Int) (if 0<x then q4v (cfZ z (x.natAbs:Int)+c) (cfZ z (-(x.natAbs:Int)))else q4v (cfZ z (x.natAbs:Int)) (cfZ z (-(x.natAbs:Int))+c)):=by
 funext v
 unfold upd z3u
 rw[Qd4]
 have hin:v∈q0h (z.map (·.2)++[(c,x)].map (·.2))↔v=(x.natAbs:Int)∨v∈q0h (z.map (·.2)):=by
  show v∈q0h (z.map (·.2)++[x])↔_
  rw[j1g,z5v]
 by_cases h:v=(x.natAbs:Int)
 ·rw[if_pos (hin.2 (.inl h)),if_pos h,z2i,z2i,h]
  rcases Int.lt_or_le 0 x with hp|hp
  ·rw[if_pos hp,if_pos (show x=(x.natAbs:Int) by omega),if_neg (show¬x= -(x.natAbs:Int) by omega),Qn9]
  ·rw[if_neg (show¬0<x by omega),if_neg (show¬x=(x.natAbs:Int) by omega),if_pos (show x= -(x.natAbs:Int) by omega),Qn9]
 ·rw[if_neg h]
  by_cases h2:v∈q0h (z.map (·.2))
  ·rw[if_pos (hin.2 (.inr h2)),if_pos h2,z2i,z2i]
   obtain⟨y,hy,hyv⟩:=q4e.1 h2
   obtain⟨q,hq,rfl⟩:=List.mem_map.1 hy
   have:=hz q hq
   rw[if_neg (show¬x=v by omega),if_neg (show¬x= -v by omega),Qn9,Qn9]
  ·rw[if_neg (fun e=>(hin.1 e).elim h h2),if_neg h2]
theorem x0c (M:Int) (hM:0≤M) (x:Int):∀z:List (Int×Int),(∀q∈z,-M≤q.1∧q.1≤M)→-(M*z.length)≤cfZ z x∧cfZ z x≤M*z.length
 |[],_=>by simp[cfZ]
 |q::t,h=>by
  obtain⟨a,b⟩:=x0c M hM x t (fun u hu=>h u (by simp[hu]))
  obtain⟨c,d⟩:=h q (by simp)
  have e:M*((t.length+1:Nat):Int)=M*t.length+M:=by rw[Qr5,Int.mul_add];simp
  simp only[cfZ,Qa8]
  rw[e]
  split<;>omega
set_option maxRecDepth 100000 in
set_option maxHeartbeats 1600000 in
theorem k0y (A L:Option Addr) (cA cL m:Nat) (l:q4p) (w:World) (h:j0q w A L l) (hok:q0o l 65536=0) (hm:q6r w m (fun _=>none)) (hft:Fits w m 0):
 Calls Tryz.prog 72 #[k7s A L cA cL l,.map (some m),.func (.func 73) #[] #[]] w fun e w'=>e=.returned (.map (some m))∧q6r w' m (z3u (l.C.zip l.L))∧Fits w' m l.L.length∧Kp (· =m) w w':=by
 obtain⟨hrc,hrl,_,_⟩:=h
 obtain⟨_,_,k1,_,k3,k4,k5⟩:=q1l hok
 have HRC:=Lib.hid hrc
 have HRL:=Lib.hid hrl
 have K3:=Lib.hid k3
 have K4:=Lib.hid k4
 have hle1:l.C.length≤l.L.length:=by omega
 have hle2:l.L.length≤l.C.length:=by omega
 have hml:=hm.lt
 have HM:=Lib.hid hm
 have HFt:=Lib.hid hft
 clear hrc hrl k1 k3 k4 hok hm hft
 go_enter Tryz.func72,Tryz.ntmps72
 go_wp2_with fail
 have HBw:=Lib.hid (q8b w (Obj.cells #[Value.slice A l.C.length cA,Value.slice L l.L.length cL,I64 l.B] 57))
 have HD1:=Lib.hid (Blk.new w 57 #[Value.slice A l.C.length cA,Value.slice L l.L.length cL,I64 l.B])
 have HM1:=Lib.hid (show q6r (w.alloc (Obj.cells #[Value.slice A l.C.length cA,Value.slice L l.L.length cL,I64 l.B] 57)) m (fun _=>none)∧Fits (w.alloc (Obj.cells #[Value.slice A l.C.length cA,Value.slice L l.L.length cL,I64 l.B] 57)) m 0 from⟨HM.out.kp ((Kp.refl (fun _=>False) w).alloc _) (fun h=>h),HFt.out.kp ((Kp.refl (fun _=>False) w).alloc _) (fun h=>h)⟩)
 have HK0:=Lib.hid (show Kp (· =m) w (w.alloc (Obj.cells #[Value.slice A l.C.length cA,Value.slice L l.L.length cL,I64 l.B] 57))from(Kp.refl _ w).alloc _)
 generalize hw1:w.alloc (Obj.cells #[Value.slice A l.C.length cA,Value.slice L l.L.length cL,I64 l.B] 57)=w1 at HBw HD1 HM1 HK0⊢
 clear hw1
 go_loopw [1,7,8,12] (fun av _ _ iv wr=>∃i:Nat,iv=.int .i64 i∧i≤l.L.length∧av=.map (some m)∧q6r wr m (z3u ((l.C.zip l.L).take i))∧Fits wr m i∧Kp (· =m) w1 wr) (fun _ _ _ iv _=>l.L.length-(intOf iv).toNat)
 case atStart=>exact⟨0,rfl,Qc1 _,rfl,HM1.out.1,HM1.out.2,Kp.refl _ _⟩
 case round=>
  obtain⟨i,rfl,hi,rfl,hmi,hfi,hkp⟩:=hrel
  have HMi:=Lib.hid hmi
  have HFi:=Lib.hid hfi
  have HKp:=Lib.hid hkp
  clear hmi hkp hfi
  by_cases hlt:i<l.L.length
  ·have hlt2:i<l.C.length:=by omega
   obtain⟨ab,ao,eA,_,ca⟩:=((HRC.out.up HBw.out).kpm HM1.out.1 HKp.out).at_ hlt2
   obtain⟨bb,bo,eL,_,cb⟩:=((HRL.out.up HBw.out).kpm HM1.out.1 HKp.out).at_ hlt
   have hz:i<(l.C.zip l.L).length:=by rw[Qf9];omega
   have hcx:=K3.out l.C[i] (Qc7 hlt2)
   obtain⟨hx0,hx1,hx2⟩:=K4.out l.L[i] (Qc7 hlt)
   have htk:(l.C.zip l.L).take (i+1)=(l.C.zip l.L).take i++[(l.C[i],l.L[i])]:=by rw[Qb9 hz,Qj5]
   have hsn:=x2e ((l.C.zip l.L).take i) l.C[i] l.L[i] hx0 (fun q hq=>(K4.out q.2 (Qf8 (Qf2 hq)).2).1)
   rw[←htk]at hsn
   have hat:=y8b ((l.C.zip l.L).take i) (l.L[i].natAbs:Int) (by omega)
   have hlk:((l.C.zip l.L).take i).length≤4096:=by rw[Qd0,Qf9];omega
   have hb1:=x0c 1099511627776 (by decide) (l.L[i].natAbs:Int) ((l.C.zip l.L).take i) (fun q hq=>K3.out q.1 (Qf8 (Qf2 hq)).1)
   have hb2:=x0c 1099511627776 (by decide) (-(l.L[i].natAbs:Int)) ((l.C.zip l.L).take i) (fun q hq=>K3.out q.1 (Qf8 (Qf2 hq)).1)
   have c0:wr.cell? ⟨w.heap.size,0,none⟩=some (.slice A l.C.length cA):=(HKp.out.cell (p:=⟨w.heap.size,0,none⟩) HD1.out.lt (by simp;omega)).trans (HD1.out.cell 0)
   have hst:=x7e m i (z3u ((l.C.zip l.L).take i)) l.C[i] l.L[i] _ _ wr HMi.out HFi.out (by omega) hat (by omega) (by omega) (by omega) (by omega) hcx
   rw[←hsn]at hst
   subst eA eL
   generalize l.C[i]=c at ca hst
   generalize l.L[i]=x at cb hst
   have HSt:=Lib.hid hst
   clear hst hsn hat hb1 hb2 htk hlk hcx hx0 hx1 hx2 hz
   go_wp2_with fail
   refine HSt.out.mono ?_
   rintro e w3 ⟨rfl,m3,f3,k3⟩
   have K3':=Lib.hid (And.intro m3 (And.intro f3 (HKp.out.one_trans k3)))
   clear m3 k3 f3
   go_wp2_with fail
   go_roundw
   case rel=>exact⟨i+1,by go_num,by omega,rfl,K3'.out.1,K3'.out.2.1,K3'.out.2.2⟩
   case measure=>simp[intOf];omega
  ·obtain rfl:i=l.L.length:=by omega
   have HT:=Lib.hid (show(l.C.zip l.L).take l.L.length=l.C.zip l.L from Qd6 (by rw[Qf9];omega))
   go_wp2_with fail
   go_ret
   exact⟨rfl,by rw[←HT.out];exact HMi.out,HFi.out,HK0.out.one_trans HKp.out⟩
end Go.Proofs.YteikjpbbhopkaaaGreatDoor
