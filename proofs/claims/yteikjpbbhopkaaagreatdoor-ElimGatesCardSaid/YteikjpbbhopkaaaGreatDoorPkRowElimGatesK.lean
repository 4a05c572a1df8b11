/- Lemmas and contracts for the row. -/
import Derived.Test.YteikjpbbhopkaaaGreatDoorPkRowElimGatesB
import Derived.Deep.AppendSrc
set_option linter.unusedVariables false
set_option linter.unusedSimpArgs false
set_option linter.unnecessarySimpa false
namespace Go.Proofs.YteikjpbbhopkaaaGreatDoor
open Go
def x5d (w:World) (A:Option Addr) (news:List Value):Prop:=(news=[]∧A=none)∨∃ad,A=some ad∧∀j u,news[j]? =some u→w.cell? (ad.add j)=some u
section
variable {P:Program} (w:World)
theorem q9j (t ty e:TypeId) (i:TypeInfo) (ht:P.underlying t=some (.slice e)) (hi:P.info? e=some i) (v:Value) (xs:List Value) (hown:Own w e v xs) (c:Nat):
 (Builtin.append_ #[t,t] ty #[v,.slice none 0 c]).run P w=.ok v w:=by
 rcases hown with⟨rfl,rfl⟩|⟨g,off,cap,cur,rfl,hg,hnc,hcm,hfit,hcs⟩
 ·simp[Builtin.append_,run_underlying ht,sizeOf,typeInfo,hi,(Src.ofNil (P:=P) w (size:=i.size) ht c).len,(Src.ofNil (P:=P) w (size:=i.size) ht c).cells]
 ·have:=run_append_room_src (P:=P) w t t ty e i ht hi g off xs.length cap (.slice none 0 c) 0 [] (Src.ofNil w ht c) (by omega) (by simp) (by simp)
  rw[this]
  rfl
theorem x2i {o:Oper} {a:Act} {K:Act→World→Prop} {Q:Exit→Act→World→Prop} (s x:Operand) (t:TypeId)
 (ho:o.op=.call {callee:=.builtin .append,args:= #[s,x],argTypes:= #[t,t]})
 (e:TypeId) (i:TypeInfo) (z:Value) (bytes:Nat) (ht:P.underlying t=some (.slice e)) (hi:P.info? e=some i) (hz:i.zero=some z)
 (hsize:i.size=1) (hby:i.bytes=bytes) (hzs:z.cells.size=1)
 (v:Value) (xs:List Value) (n:Nat) (hlen:xs.length=n) (hs:a.eval s=v) (hown:Own w e v xs)
 (A:Option Addr) (c:Nat) (news:List Value) (m:Nat) (hm:news.length=m) (hx:a.eval x=.slice A m c) (hc:x5d w A news) (h1:∀u∈news,u.oneCell'=true)
 (h63:n+m≤maxLen) (hbytes:(n+m)*bytes≤140737488355328)
 (h:∀A' cap w',Own w' e (.slice A' (n+m) cap) (xs++news)→w.grownBy w' v.ownBlock→(∀g,(Value.slice A' (n+m) cap).ownBlock=some g→v.ownBlock=some g∨g=w.heap.size)→
  K (a.put o.dst (.slice A' (n+m) cap)) w'):o.wp P a w K Q:=by
 subst hlen hm
 rcases hc with⟨rfl,rfl⟩|⟨ad,rfl,hc⟩
 ·obtain⟨A',cap,rfl,_⟩:=hown.form
  have hr:=q9j (P:=P) w t o.type e i ht hi _ xs hown c
  unfold Oper.wp execOp
  simp only[ho,resolve,invoke,builtin,Sem.run_bind,Sem.run_pure,Result.andThen_ok,Qr1,Qc6,Qj9,hs,hx,Qb5,hr]
  exact h A' cap w (by simpa using hown) ⟨rfl,rfl,rfl,Qb8 _,fun _ _ _=>rfl⟩ (fun g hg=>.inl hg)
 ·exact j2c w s x t ho e i z bytes ht hi hz hsize hby hzs v xs hs hown ad c news hx hc h1 h63 hbytes h
theorem z0m {ops:Array Oper} {rest:List Oper} {o:Oper} {a:Act} {Q:Exit→Act→World→Prop} (hgd:o.guard=none) (s x:Operand) (t:TypeId)
 (ho:o.op=.call {callee:=.builtin .append,args:= #[s,x],argTypes:= #[t,t]})
 (e:TypeId) (i:TypeInfo) (z:Value) (bytes:Nat) (ht:P.underlying t=some (.slice e)) (hi:P.info? e=some i) (hz:i.zero=some z)
 (hsize:i.size=1) (hby:i.bytes=bytes) (hzs:z.cells.size=1)
 (v:Value) (xs:List Value) (n:Nat) (hlen:xs.length=n) (hs:a.eval s=v) (hown:Own w e v xs)
 (A:Option Addr) (c:Nat) (news:List Value) (m:Nat) (hm:news.length=m) (hx:a.eval x=.slice A m c) (hc:x5d w A news) (h1:∀u∈news,u.oneCell'=true)
 (h63:n+m≤maxLen) (hbytes:(n+m)*bytes≤140737488355328)
 (h:∀A' cap w',Own w' e (.slice A' (n+m) cap) (xs++news)→w.grownBy w' v.ownBlock→(∀g,(Value.slice A' (n+m) cap).ownBlock=some g→v.ownBlock=some g∨g=w.heap.size)→
  wpList P ops Q rest (a.put o.dst (.slice A' (n+m) cap)) w'):wpList P ops Q (o::rest) a w:=
 wpList_plain hgd fun _ hK=>x2i w s x t ho e i z bytes ht hi hz hsize hby hzs v xs n hlen hs hown A c news m hm hx hc h1 h63 hbytes fun A' cap w' h2 h3 h4=>hK _ _ (h A' cap w' h2 h3 h4)
end
end Go.Proofs.YteikjpbbhopkaaaGreatDoor
