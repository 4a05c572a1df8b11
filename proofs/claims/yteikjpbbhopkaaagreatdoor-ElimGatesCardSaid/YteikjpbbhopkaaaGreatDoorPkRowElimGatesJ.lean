/- Lemmas and contracts for the row. -/
import Derived.Test.YteikjpbbhopkaaaGreatDoorPkRowElimGatesF
import Derived.Deep.RegionHeld3
import Derived.Deep.DrawnRows
set_option linter.unusedVariables false
set_option linter.unusedSimpArgs false
set_option linter.unnecessarySimpa false
namespace Go.Proofs.YteikjpbbhopkaaaGreatDoor
open Go.RowKit Go.Shelf
def z5g (st:Int→Int→Int→Int) (z:List (Int×Int)) (a0:Int):Int:=z.foldl (fun a q=>st a q.1 q.2) a0
theorem x4w (st:Int→Int→Int→Int) (C L:List Int) (a0:Int) (k:Nat) (h1:k<C.length) (h2:k<L.length):z5g st ((C.zip L).take (k+1)) a0=st (z5g st ((C.zip L).take k) a0) C[k] L[k]:=by
 have hz:k<(C.zip L).length:=by rw[Qf9];omega
 unfold z5g
 rw[Qb9 hz,Qn6,Qj5]
 rfl
def Steps (f:Nat) (lb:List Value) (st:Int→Int→Int→Int) (l:q4p) (a0:Int) (w:World):Prop:=
 ∀(k:Nat) (h1:k<l.C.length) (h2:k<l.L.length) wx,Below w.heap.size w wx→Calls Tryz.prog f (I64 (z5g st ((l.C.zip l.L).take k) a0)::I64 l.C[k]::I64 l.L[k]::lb).toArray wx fun e w'=>e=.returned (I64 (st (z5g st ((l.C.zip l.L).take k) a0) l.C[k] l.L[k]))∧Below wx.heap.size wx w'
set_option maxHeartbeats 1600000 in
theorem k1e (f:Nat) (lb:List Value) (st:Int→Int→Int→Int) (A L:Option Addr) (cA cL:Nat) (l:q4p) (a0:Int) (w:World) (heg:∀(args:Array Value) (w:World),(callFunc f args).run Tryz.prog w=.ok (.enter f args) w)
 (hs:Steps f lb st l a0 w) (h:j0q w A L l) (hlen:l.C.length=l.L.length):
 Calls Tryz.prog 106 #[k7s A L cA cL l,I64 a0,.func (.func f) #[] lb.toArray] w fun e w'=>e=.returned (I64 (z5g st (l.C.zip l.L) a0))∧Below w.heap.size w w':=by
 obtain⟨hrc,hrl,hlc,hll⟩:=h
 have HRC:=Lib.hid hrc
 have HRL:=Lib.hid hrl
 have HS:=Lib.hid hs
 have hle1:l.C.length≤l.L.length:=by omega
 have hle2:l.L.length≤l.C.length:=by omega
 unfold maxLen at hlc hll
 clear hrc hrl hs hlen
 go_enter Tryz.func106,Tryz.ntmps106
 go_wp2_with fail
 have HBw:=Lib.hid (q8b w (Obj.cells #[Value.slice A l.C.length cA,Value.slice L l.L.length cL,I64 l.B] 57))
 have HD1:=Lib.hid (Blk.new w 57 #[Value.slice A l.C.length cA,Value.slice L l.L.length cL,I64 l.B])
 generalize hw1:w.alloc (Obj.cells #[Value.slice A l.C.length cA,Value.slice L l.L.length cL,I64 l.B] 57)=w1 at HBw HD1⊢
 clear hw1
 go_loopw [1,7,8,12] (fun av _ _ iv wr=>∃i:Nat,iv=.int .i64 i∧i≤l.L.length∧av=I64 (z5g st ((l.C.zip l.L).take i) a0)∧Below w1.heap.size w1 wr) (fun _ _ _ iv _=>l.L.length-(intOf iv).toNat)
 case atStart=>exact⟨0,rfl,Qc1 _,rfl,Below.refl _ _⟩
 case round=>
  obtain⟨i,rfl,hi,rfl,hbel⟩:=hrel
  have HBel:=Lib.hid hbel
  clear hbel
  by_cases hlt:i<l.L.length
  ·have hlt2:i<l.C.length:=by omega
   have hb2:=q3a HBw.out HBel.out
   obtain⟨ab,ao,eA,_,ca⟩:=(HRC.out.up hb2).at_ hlt2
   obtain⟨bb,bo,eL,_,cb⟩:=(HRL.out.up hb2).at_ hlt
   have hst:=HS.out i hlt2 hlt wr hb2
   have HSn:=Lib.hid (x4w st l.C l.L a0 i hlt2 hlt)
   have c0:wr.cell? ⟨w.heap.size,0,none⟩=some (.slice A l.C.length cA):=(HBel.out.cell (p:=⟨w.heap.size,0,none⟩) HD1.out.lt).trans (HD1.out.cell 0)
   subst eA eL
   generalize l.C[i]=c at ca hst HSn
   generalize l.L[i]=x at cb hst HSn
   generalize z5g st ((l.C.zip l.L).take i) a0=acc at hst HSn
   have HSt:=Lib.hid hst
   clear hst hb2
   go_wp2_with fail
   refine HSt.out.mono ?_
   rintro e w3 ⟨rfl,b3⟩
   have B3:=Lib.hid (q3a HBel.out b3)
   clear b3
   go_wp2_with fail
   go_roundw
   case rel=>exact⟨i+1,by go_num,by omega,by rw[HSn.out],B3.out⟩
   case measure=>simp[intOf];omega
  ·obtain rfl:i=l.L.length:=by omega
   have HT:=Lib.hid (show(l.C.zip l.L).take l.L.length=l.C.zip l.L from Qd6 (by rw[Qf9];omega))
   go_wp2_with fail
   go_ret
   exact⟨by rw[HT.out];rfl,q3a HBw.out HBel.out⟩
theorem x3d {B:Nat} {w w1:World} (h:Below B w w1):Below B w w1.drew:=⟨h.os,h.tape,h.output,h.size,h.block⟩
end Go.Proofs.YteikjpbbhopkaaaGreatDoor
