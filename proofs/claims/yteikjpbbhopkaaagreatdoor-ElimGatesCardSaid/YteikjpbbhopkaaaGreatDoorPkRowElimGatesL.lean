/- Lemmas and contracts for the row. -/
import Derived.Test.YteikjpbbhopkaaaGreatDoorPkRowElimGatesB
import Derived.Test.YteikjpbbhopkaaaGreatDoorPkRowElimGatesA
set_option linter.unusedVariables false
set_option linter.unusedSimpArgs false
set_option linter.unnecessarySimpa false
namespace Go.Proofs.YteikjpbbhopkaaaGreatDoor
open Go.RowKit
def q5k (k:Int) (e:MapEntry):Bool:=match e.key with|.int .i64 a=>a==k|_=>false
def q9c (es:List MapEntry) (k:Int):Option Value:=(es.find? (q5k k)).map (·.val)
def intKeys (es:List MapEntry):Prop:=∀e∈es,∃a,e.key=.int .i64 a
def q6r (w:World) (m:Nat) (f:Int→Option Value):Prop:=∃es clock,w.heap[m]? =some (.map es clock)∧intKeys es.toList∧∀k,q9c es.toList k=f k
def upd (f:Int→Option Value) (k:Int) (v:Value):Int→Option Value:=fun j=>if j=k then some v else f j
theorem findNow_spec (k:Int) (q:IntKind):∀(es:List MapEntry) (i0:Nat),intKeys es→
 (∃j,∃h:j<es.length,es[j].key=.int .i64 k∧(∀j' (h':j'<j),q5k k (es[j']'(by omega))=false)∧Instr.findNow (.int q) (.int .i64 k) es i0=some (some (i0+j,es[j].val))∧q9c es k=some es[j].val)∨
 (Instr.findNow (.int q) (.int .i64 k) es i0=some none∧(∀e∈es,q5k k e=false)∧q9c es k=none)
 |[],_,_=>.inr ⟨rfl,by simp,rfl⟩
 |e::es,i0,hk=>by
  obtain⟨a,ha⟩:=hk e (by simp)
  by_cases hak:a=k
  ·subst hak
   refine .inl ⟨0,by simp,ha,fun j' h'=>by omega,?_,?_⟩
   ·simp[Instr.findNow,ha,Instr.sameNow]
   ·simp[q9c,q5k,ha]
  ·have hf:q5k k e=false:=by simp[q5k,ha,hak]
   have hs:Instr.sameNow (.int q) (.int .i64 k) e.key=some false:=by
    simp only[ha,Instr.sameNow,if_true]
    congr 1
    simp
    exact fun h=>hak h.symm
   rcases findNow_spec k q es (i0+1) (fun e he=>hk e (by simp[he]))with⟨j,h,h1,h2,h3,h4⟩|⟨h3,h2,h4⟩
   ·refine .inl ⟨j+1,by simpa using h,by simpa using h1,fun j' h'=>?_,?_,?_⟩
    ·rcases j' with _|j'
     ·simpa using hf
     ·simpa using h2 j' (by omega)
    ·simp only[Instr.findNow,hs,h3,List.getElem_cons_succ]
     congr 3
     omega
    ·simp only[q9c,Qj1,hf]at h4⊢
     simpa using h4
   ·refine .inr ⟨?_,fun e' he'=>?_,?_⟩
    ·simp only[Instr.findNow,hs,h3]
    ·rcases List.mem_cons.1 he' with rfl|he'
     ·exact hf
     ·exact h2 e' he'
    ·simp only[q9c,Qj1,hf]at h4⊢
     simpa using h4
section
variable {P:Program} {w:World} {m:Nat} {f:Int→Option Value}
theorem j0c (kt:TypeId) (hkt:P.underlying kt=some (.int .i64)) (em:Bool) (n:Nat) (k:Int):(Instr.checkKey em (n+1) kt (.int .i64 k)).run P w=.ok () w:=by simp[Instr.checkKey,run_underlying hkt]
theorem q9x (t kt et:TypeId) (z:Value) (ht:P.underlying t=some (.map kt et)) (hkt:P.underlying kt=some (.int .i64)) (hz:∀w:World,(zeroValue et).run P w=.ok z w) (h:q6r w m f) (k:Int):
 (Instr.lookup t (.map (some m)) (.int .i64 k) false).run P w=.ok ((f k).getD z) w:=by
 obtain⟨es,clock,hb,hk,hf⟩:=h
 have hc:=fun em:Bool=>j0c (P:=P) (w:=w) kt hkt em 9999 k
 have hg:(getObj m).run P w=.ok (.map es clock) w:=by simp[getObj,Sem.run,hb]
 rcases findNow_spec k .i64 es.toList 0 hk with⟨j,hj,h1,h2,h3,h4⟩|⟨h3,h2,h4⟩
 ·rw[←hf k,h4]
  simp[Instr.lookup,run_underlying ht,hg,hc,Instr.findKey,run_underlying hkt,h3]
 ·rw[←hf k,h4]
  simp[Instr.lookup,run_underlying ht,hg,hc,Instr.findKey,run_underlying hkt,h3,hz]
theorem j9l (es:List MapEntry) (k k':Int) (v:Value) (j:Nat) (hj:j<es.length) (h1:es[j].key=.int .i64 k) (h2:∀j' (h':j'<j),q5k k (es[j']'(by omega))=false):
 q9c (es.modify j fun e=>{e with key:=.int .i64 k,val:=v}) k'=if k'=k then some v else q9c es k':=by
 induction es generalizing j with
 |nil=>simp at hj
 |cons e es ih=>
  rcases j with _|j
  ·simp only[List.getElem_cons_zero]at h1
   simp only[List.modify_zero_cons,q9c,Qj1]
   by_cases hk:k'=k
   ·subst hk
    simp[q5k]
   ·have e1:q5k k' {e with key:=.int .i64 k,val:=v}=false:=by simp[q5k];exact fun h=>hk h.symm
    have e2:q5k k' e=false:=by simp[q5k,h1];exact fun h=>hk h.symm
    simp[e1,e2,hk]
  ·have h0:=h2 0 (by omega)
   simp only[List.getElem_cons_zero]at h0
   have:=ih j (by simpa using hj) (by simpa using h1) (fun j' h'=>by simpa using h2 (j'+1) (by omega))
   simp only[List.modify_succ_cons,q9c,Qj1]at this⊢
   by_cases hk:k'=k
   ·subst hk
    simp only[h0,if_true]at this⊢
    exact this
   ·rw[if_neg hk]at this⊢
    cases q5k k' e
    ·exact this
    ·rfl
theorem x2q (es:List MapEntry) (k k':Int) (v:Value) (c:Nat) (h2:∀e∈es,q5k k e=false):
 q9c (es++[{key:=.int .i64 k,val:=v,born:=c}]) k'=if k'=k then some v else q9c es k':=by
 simp only[q9c,List.find?_append]
 by_cases hk:k'=k
 ·subst hk
  rw[List.find?_eq_none.2 (fun e he=>by simp[h2 e he])]
  simp[q5k]
 ·rw[if_neg hk]
  have:q5k k' {key:=.int .i64 k,val:=v,born:=c}=false:=by simp[q5k];exact fun h=>hk h.symm
  simp[this]
theorem z0t (t kt et:TypeId) (ht:P.underlying t=some (.map kt et)) (hkt:P.underlying kt=some (.int .i64)) (h:q6r w m f) (k:Int) (v:Value):
 ∃w',(Instr.mapUpdate t (.map (some m)) (.int .i64 k) v).run P w=.ok () w'∧q6r w' m (upd f k v)∧w.grownBy w' (some m)∧w'.heap.size=w.heap.size:=by
 obtain⟨es,clock,hb,hk,hf⟩:=h
 have hc:=fun em:Bool=>j0c (P:=P) (w:=w) kt hkt em 9999 k
 have hg:(getObj m).run P w=.ok (.map es clock) w:=by simp[getObj,Sem.run,hb]
 have hs:∀o:Obj,(setObj m o).run P w=.ok () {w with heap:=w.heap.setIfInBounds m o}:=fun o=>by simp[setObj,Sem.run,hb]
 have hlt:m<w.heap.size:=(Array.getElem?_eq_some_iff.1 hb).1
 have hgr:∀o:Obj,w.grownBy {w with heap:=w.heap.setIfInBounds m o} (some m):=fun o=>
  ⟨rfl,rfl,rfl,by simp,fun j hj hne=>by simp only[Qi5];rw[if_neg (fun e=>hne (by rw[e]))]⟩
 rcases findNow_spec k .i64 es.toList 0 hk with⟨j,hj,h1,h2,h3,h4⟩|⟨h3,h2,h4⟩
 ·have hj':j<es.size:=by simpa using hj
  have hkey:((es[j]?).map (·.key)).getD (.int .i64 k)=.int .i64 k:=by
   rw[Qg9 hj']
   simpa using h1
  refine⟨{w with heap:=w.heap.setIfInBounds m (.map (es.modify j fun e=>{e with key:=.int .i64 k,val:=v}) clock)},?_,⟨es.modify j fun e=>{e with key:=.int .i64 k,val:=v},clock,by simp[hlt],?_,fun k'=>?_⟩,hgr _,by simp⟩
  ·simp[Instr.mapUpdate,run_underlying ht,hg,hc,Instr.findKey,run_underlying hkt,h3,hkey,Instr.keyThatStays,Instr.sameBits,hs]
  ·intro e he
   simp only[Qp1]at he
   obtain⟨i,hi,rfl⟩:=List.mem_iff_getElem.1 he
   rw[List.getElem_modify]
   split
   ·exact⟨k,rfl⟩
   ·exact hk _ (Qc7 _)
  ·rw[Qp1,j9l es.toList k k' v j hj h1 h2,upd]
   split
   ·rfl
   ·exact hf k'
 ·refine⟨{w with heap:=w.heap.setIfInBounds m (.map (es.push {key:=.int .i64 k,val:=v,born:=clock}) (clock+1))},?_,⟨es.push {key:=.int .i64 k,val:=v,born:=clock},clock+1,by simp[hlt],?_,fun k'=>?_⟩,hgr _,by simp⟩
  ·simp[Instr.mapUpdate,run_underlying ht,hg,hc,Instr.findKey,run_underlying hkt,h3,hs]
  ·intro e he
   rw[Qq4,Qf4]at he
   rcases he with he|he
   ·exact hk e he
   ·simp at he;subst he;exact⟨k,rfl⟩
  ·rw[Qq4,x2q es.toList k k' v clock h2,upd]
   split
   ·rfl
   ·exact hf k'
theorem q6r.made (w:World):q6r (w.alloc (.map #[] 0)) w.heap.size (fun _=>none):=⟨#[],0,heap_alloc_new w _,by intro e he;simp at he,fun k=>rfl⟩
theorem q6r.lt (h:q6r w m f):m<w.heap.size:=by
 obtain⟨es,clock,hb,_⟩:=h
 exact(Array.getElem?_eq_some_iff.1 hb).1
theorem q6r.kp {M:Nat→Prop} {w':World} (h:q6r w m f) (hk:Kp M w w') (hm:¬M m):q6r w' m f:=by
 have hlt:=h.lt
 obtain⟨es,clock,hb,h2⟩:=h
 exact⟨es,clock,(hk.block m hlt hm).trans hb,h2⟩
theorem q6r.ne_blk {g:Nat} {t:TypeId} {cs:Array Value} (h:q6r w m f) (hg:Blk w g t cs):m≠g:=by
 rintro rfl
 obtain⟨es,clock,hb,h2⟩:=h
 unfold Blk at hg
 rw[hb]at hg
 cases hg
end
end Go.Proofs.YteikjpbbhopkaaaGreatDoor
namespace Go.Proofs.YteikjpbbhopkaaaGreatDoor
open Go.RowKit
def k7a (e:MapEntry):Value×Value:=(e.key,e.val)
def pv (p:Int×Value):Value×Value:=(.int .i64 p.1,p.2)
def j7m (w:World) (m:Nat) (kvs:List (Int×Value)):Prop:=∃es clock,w.heap[m]? =some (.map es clock)∧es.toList.map k7a=kvs.map pv∧(kvs.map (·.1)).Nodup
def q7w (kvs:List (Int×Value)) (k:Int):Option Value:=(kvs.find? fun p=>p.1==k).map (·.2)
theorem z1f:∀{es:List MapEntry} {kvs:List (Int×Value)},es.map k7a=kvs.map pv→intKeys es
 |[],_,_=>fun e he=>by cases he
 |e::es,[],h=>by simp at h
 |e::es,p::kvs,h=>by
  simp only[Qc6,List.cons.injEq]at h
  intro x hx
  rcases List.mem_cons.1 hx with rfl|hx
  ·exact⟨p.1,congrArg Prod.fst h.1⟩
  ·exact z1f h.2 x hx
theorem z1n:∀{es:List MapEntry} {kvs:List (Int×Value)},es.map k7a=kvs.map pv→∀k,q9c es k=q7w kvs k
 |[],[],_,k=>rfl
 |[],p::kvs,h,k=>by simp at h
 |e::es,[],h,k=>by simp at h
 |e::es,p::kvs,h,k=>by
  simp only[Qc6,List.cons.injEq]at h
  have h1:e.key=.int .i64 p.1:=congrArg Prod.fst h.1
  have h2:e.val=p.2:=congrArg Prod.snd h.1
  have ih:=z1n h.2 k
  unfold q9c q7w at ih⊢
  rw[Qj1,Qj1]
  have h3:q5k k e=(p.1==k):=by simp[q5k,h1]
  rw[h3]
  cases p.1==k with
  |true=>simp[h2]
  |false=>exact ih
section
variable {P:Program} {w w':World} {m:Nat} {kvs:List (Int×Value)}
theorem j7m.mapI (h:j7m w m kvs):q6r w m (q7w kvs):=by
 obtain⟨es,clock,hb,hp,_⟩:=h
 exact⟨es,clock,hb,z1f hp,fun k=>z1n hp k⟩
theorem j7m.lt (h:j7m w m kvs):m<w.heap.size:=by
 obtain⟨es,clock,hb,_⟩:=h
 exact(Array.getElem?_eq_some_iff.1 hb).1
theorem j7m.keep (h:j7m w m kvs) (hk:w'.heap[m]? =w.heap[m]?):j7m w' m kvs:=by
 obtain⟨es,clock,hb,h2⟩:=h
 exact⟨es,clock,hk.trans hb,h2⟩
theorem j7m.made (w:World):j7m (w.alloc (.map #[] 0)) w.heap.size []:=⟨#[],0,heap_alloc_new w _,rfl,List.nodup_nil⟩
theorem j7m.cnt (h:j7m w m kvs):∃es clock,w.heap[m]? =some (.map es clock)∧es.size=kvs.length:=by
 obtain⟨es,clock,hb,hp,_⟩:=h
 exact⟨es,clock,hb,by have:=congrArg List.length hp;simpa using this⟩
theorem v0z (t kt et:TypeId) (z:Value) (ht:P.underlying t=some (.map kt et)) (hkt:P.underlying kt=some (.int .i64)) (hz:∀w:World,(zeroValue et).run P w=.ok z w) {f:Int→Option Value} (h:q6r w m f) (k:Int):
 (Instr.lookup t (.map (some m)) (.int .i64 k) true).run P w=.ok (.tuple #[(f k).getD z,.bool (f k).isSome]) w:=by
 obtain⟨es,clock,hb,hk,hf⟩:=h
 have hc:=fun em:Bool=>j0c (P:=P) (w:=w) kt hkt em 9999 k
 have hg:(getObj m).run P w=.ok (.map es clock) w:=by simp[getObj,Sem.run,hb]
 rcases findNow_spec k .i64 es.toList 0 hk with⟨j,hj,h1,h2,h3,h4⟩|⟨h3,h2,h4⟩
 ·rw[←hf k,h4]
  simp[Instr.lookup,run_underlying ht,hg,hc,Instr.findKey,run_underlying hkt,h3]
 ·rw[←hf k,h4]
  simp[Instr.lookup,run_underlying ht,hg,hc,Instr.findKey,run_underlying hkt,h3,hz]
theorem j5m (t kt et:TypeId) (ht:P.underlying t=some (.map kt et)) (hkt:P.underlying kt=some (.int .i64)) (h:j7m w m kvs) (k:Int) (v:Value) (hv:q7w kvs k=none∨q7w kvs k=some v):
 ∃o:Obj,(Instr.mapUpdate t (.map (some m)) (.int .i64 k) v).run P w=.ok () {w with heap:=w.heap.setIfInBounds m o}∧j7m {w with heap:=w.heap.setIfInBounds m o} m (if q7w kvs k=none then kvs++[(k,v)]else kvs):=by
 obtain⟨es,clock,hb,hp,hnd⟩:=h
 have hk:=z1f hp
 have hc:=fun em:Bool=>j0c (P:=P) (w:=w) kt hkt em 9999 k
 have hg:(getObj m).run P w=.ok (.map es clock) w:=by simp[getObj,Sem.run,hb]
 have hs:∀o:Obj,(setObj m o).run P w=.ok () {w with heap:=w.heap.setIfInBounds m o}:=fun o=>by simp[setObj,Sem.run,hb]
 have hlt:m<w.heap.size:=(Array.getElem?_eq_some_iff.1 hb).1
 have hlook:=z1n hp k
 rcases findNow_spec k .i64 es.toList 0 hk with⟨j,hj,h1,h2,h3,h4⟩|⟨h3,h2,h4⟩
 ·have hj':j<es.size:=by simpa using hj
  have hkey:((es[j]?).map (·.key)).getD (.int .i64 k)=.int .i64 k:=by
   rw[Qg9 hj']
   simpa using h1
  have hfv:q7w kvs k=some es.toList[j].val:=hlook.symm.trans h4
  have hval:es.toList[j].val=v:=by
   rcases hv with hv|hv
   ·rw[hv]at hfv;cases hfv
   ·rw[hv]at hfv;exact(Option.some.inj hfv).symm
  refine⟨.map (es.modify j fun e=>{e with key:=.int .i64 k,val:=v}) clock,?_,?_⟩
  ·simp[Instr.mapUpdate,run_underlying ht,hg,hc,Instr.findKey,run_underlying hkt,h3,hkey,Instr.keyThatStays,Instr.sameBits,hs]
  ·rw[if_neg (by rw[hfv];exact Option.some_ne_none _)]
   refine⟨es.modify j fun e=>{e with key:=.int .i64 k,val:=v},clock,by simp[hlt],?_,hnd⟩
   rw[←hp,Qp1]
   apply Qh6
   ·simp
   ·intro i a b
    rw[Qg3,Qg3,List.getElem_modify]
    split
    ·rename_i hji
     subst hji
     unfold k7a
     rw[h1,hval]
    ·rfl
 ·have hfv:q7w kvs k=none:=hlook.symm.trans h4
  refine⟨.map (es.push {key:=.int .i64 k,val:=v,born:=clock}) (clock+1),?_,?_⟩
  ·simp[Instr.mapUpdate,run_underlying ht,hg,hc,Instr.findKey,run_underlying hkt,h3,hs]
  ·rw[if_pos hfv]
   refine⟨es.push {key:=.int .i64 k,val:=v,born:=clock},clock+1,by simp[hlt],?_,?_⟩
   ·rw[Qq4,Qd4,Qd4,hp]
    rfl
   ·rw[Qd4,List.nodup_append]
    refine⟨hnd,by simp,fun x hx y hy=>?_⟩
    rw[List.map_singleton,Qe0]at hy
    subst hy
    rintro rfl
    obtain⟨p,hp1,hp2⟩:=List.mem_map.1 hx
    unfold q7w at hfv
    rw[Option.map_eq_none_iff,List.find?_eq_none]at hfv
    exact hfv p hp1 (by simpa using hp2)
def x4g (ks:List Int):List (Int×Value):=ks.map fun k=>(k,.bool true)
def u7v (ks:List Int) (k:Int):List Int:=bif ks.contains k then ks else ks++[k]
theorem z7n:∀(ks:List Int) (k:Int),q7w (x4g ks) k=if ks.contains k then some (.bool true)else none
 |[],k=>rfl
 |a::ks,k=>by
  have ih:=z7n ks k
  unfold q7w x4g at ih⊢
  rw[Qc6,Qj1]
  by_cases h:a=k
  ·subst h;simp
  ·have h1:(a==k)=false:=by simpa using h
   have h2:(k==a)=false:=by simpa using fun e:k=a=>h e.symm
   simp only[h1,List.contains_cons,h2,Qm2]
   exact ih
theorem k7z (t kt et:TypeId) (ht:P.underlying t=some (.map kt et)) (hkt:P.underlying kt=some (.int .i64)) {ks:List Int} (h:j7m w m (x4g ks)) (k:Int):
 ∃o:Obj,(Instr.mapUpdate t (.map (some m)) (.int .i64 k) (.bool true)).run P w=.ok () {w with heap:=w.heap.setIfInBounds m o}∧j7m {w with heap:=w.heap.setIfInBounds m o} m (x4g (u7v ks k)):=by
 have hf:=z7n ks k
 obtain⟨o,h1,h2⟩:=j5m t kt et ht hkt h k (.bool true) (by rw[hf];cases ks.contains k<;>simp)
 refine⟨o,h1,?_⟩
 unfold u7v
 cases hc:ks.contains k with
 |true=>rw[hc]at hf;rw[if_neg (by rw[hf];simp)]at h2;exact h2
 |false=>
  rw[hc]at hf
  rw[if_pos (by rw[hf];simp)]at h2
  have e:x4g ks++[(k,Value.bool true)]=x4g (ks++[k]):=by simp[x4g]
  rw[e]at h2
  exact h2
theorem k3p {ks:List Int} {vs:List Value} {k:Int} (h:k∉ks):q7w (ks.zip vs) k=none:=by
 unfold q7w
 rw[Option.map_eq_none_iff,List.find?_eq_none]
 intro p hp
 have:=(Qf8 hp).1
 simpa using fun e:p.1=k=>h (e▸this)
end
end Go.Proofs.YteikjpbbhopkaaaGreatDoor
namespace Go.Proofs.YteikjpbbhopkaaaGreatDoor.Cn
open Go
def v0p (l:List Int):List Int:=l.foldl (fun ks x=>u7v ks (max x (-x))) (u7v [] 0)
def v3m (next:Int) (l:List Int) (i:Nat):Bool:= !((decide (max (l.getD i 0) (-(l.getD i 0))<0)||decide (max (l.getD i 0) (-(l.getD i 0))≥next))||(v0p (l.take i)).contains (max (l.getD i 0) (-(l.getD i 0))))
def k9h (next:Int) (l:List Int):Bool:=(List.range l.length).all (v3m next l)
def at1 (l:List Int) (n:Int):List Int:=if n<0∨(l.length:Int)≤n then[]else[l.getD n.toNat 0]
def v0m:List Int→List Int
 |[]=>[]
 |x::_=>[-x]
def u9a (next:Int) (many:Nat):List Int:=(List.range many).map fun i:Nat=>next+(i:Int)
def up1 (a b o:List Int) (i k:Nat):List (List Int):=if 0<i+k∧i+k≤o.length then[v0m (at1 a ((i:Int)-1))++v0m (at1 b ((k:Int)-1))++at1 o ((i:Int)+k-1)]else[]
def dn1 (a b o:List Int) (i k:Nat):List (List Int):=if i+k<o.length then[at1 a i++at1 b k++v0m (at1 o ((i:Int)+k))]else[]
def v3h (a b o:List Int) (i k:Nat):List (List Int):=(List.range k).flatMap fun j=>up1 a b o i j++dn1 a b o i j
def v3t (a b o:List Int) (i:Nat):List (List Int):=(List.range i).flatMap fun i=>v3h a b o i (b.length+1)
abbrev TSt:=Int×Bool×List (List Int)
def v2z (most:Int) (l a b:List Int) (s:TSt):List Int×TSt:=
 if(s.2.1||decide (s.1+min (l.length:Int) most>65537))=true then([],(s.1,true,s.2.2))
 else(u9a s.1 (min (l.length:Int) most).toNat,(s.1+min (l.length:Int) most,false,s.2.2++v3t a b (u9a s.1 (min (l.length:Int) most).toNat) (a.length+1)))
def u6i (most:Int):Nat→List Int→TSt→List Int×TSt
 |0,l,s=>(l,s)
 |n+1,l,s=>if(((l.length:Int)==1)||s.2.1)=true then(l,s)else
  v2z most l (u6i most n (l.take (l.length/2)) s).1 (u6i most n (l.drop (l.length/2)) (u6i most n (l.take (l.length/2)) s).2).1 (u6i most n (l.drop (l.length/2)) (u6i most n (l.take (l.length/2)) s).2).2
def v0c (most:Int) (l:List Int) (s:TSt):List Int×TSt:=u6i most l.length l s
def v3p (most:Int) (l:List Int) (nx:Int) (fl:Bool) (c:List (List Int)):List Int:=(v0c most l (nx,fl,c)).1
def v0w (most:Int) (l:List Int) (nx:Int) (fl:Bool) (c:List (List Int)):Int:=(v0c most l (nx,fl,c)).2.1
def v0u (most:Int) (l:List Int) (nx:Int) (fl:Bool) (c:List (List Int)):Bool:=(v0c most l (nx,fl,c)).2.2.1
def v2y (most:Int) (l:List Int) (nx:Int) (fl:Bool) (c:List (List Int)):List (List Int):=(v0c most l (nx,fl,c)).2.2.2
section
variable {most nx:Int} {l:List Int} {fl:Bool} {c:List (List Int)}
abbrev L1 (l:List Int):List Int:=(l.take ((l.length:Int).tdiv 2).toNat).drop 0
abbrev L2 (l:List Int):List Int:=(l.take l.length).drop ((l.length:Int).tdiv 2).toNat
abbrev N1 (most:Int) (l:List Int) (nx:Int) (fl:Bool) (c:List (List Int)):Int:=v0w most (L1 l) nx fl c
abbrev B1 (most:Int) (l:List Int) (nx:Int) (fl:Bool) (c:List (List Int)):Bool:=v0u most (L1 l) nx fl c
abbrev C1 (most:Int) (l:List Int) (nx:Int) (fl:Bool) (c:List (List Int)):List (List Int):=v2y most (L1 l) nx fl c
abbrev N2 (most:Int) (l:List Int) (nx:Int) (fl:Bool) (c:List (List Int)):Int:=v0w most (L2 l) (N1 most l nx fl c) (B1 most l nx fl c) (C1 most l nx fl c)
abbrev B2 (most:Int) (l:List Int) (nx:Int) (fl:Bool) (c:List (List Int)):Bool:=v0u most (L2 l) (N1 most l nx fl c) (B1 most l nx fl c) (C1 most l nx fl c)
end
def v3u (most:Int) (l:List Int) (next:Int):Bool:=bif (decide (next<1))then(decide (next<1))else(bif (decide (next>65537))then(decide (next>65537))else(bif (decide (most<0))then(decide (most<0))else(bif (decide (most>1099511627776))then(decide (most>1099511627776))else(decide ((l.length:Int)>4096)))))
def j0f (most:Int) (l:List Int) (next:Int):List Int×List (List Int)×Int×Int:=
 if v3u most l next=true then([],[],0,1)else if k9h next l=false then([],[],0,140)else if l.length=0∨most=0 then([],[],next,0)
 else if v0u most l next false []=true then([],[],0,2)else(v3p most l next false [],v2y most l next false [],v0w most l next false [],0)
section
variable {most next:Int} {l:List Int}
end
end Go.Proofs.YteikjpbbhopkaaaGreatDoor.Cn
namespace Go.Proofs.YteikjpbbhopkaaaGreatDoor.Cn
open Go
def u1g (next:Int) (l:List Int):Int:=if next<1∨65537<next∨4096<l.length then 1 else if k9h next l=true then 0 else 140
def u6j (b m j:Int):Int:=if j<1∨m<j then 0 else b+j-1
def nz (l:List Int):List Int:=l.filter fun x=> !(x==0)
def v3b (b m ab am x:Int) (j:Nat):List (List Int):=(List.range j).flatMap fun i:Nat=>
 [nz [-(u6j b m ((i:Int)+1)),u6j ab am ((i:Int)+1),x]]++if(i:Int)+1>1 then[nz [-(u6j b m ((i:Int)+1)),u6j ab am ((i:Int)+1),u6j ab am ((i:Int)+1-1)]]else[]
def cAb (k next:Int):Nat→Int×Int×Int
 |0=>(0,0,next)
 |i+1=>((cAb k next i).2.2,min ((i:Int)+1) k,(cAb k next i).2.2+min ((i:Int)+1) k)
def v2d (l:List Int) (k next:Int):Nat→List (List Int)
 |0=>[]
 |i+1=>v2d l k next i++v3b (cAb k next i).2.2 (min ((i:Int)+1) k) (cAb k next i).1 (cAb k next i).2.1 (l.getD i 0) (min ((i:Int)+1) k).toNat
def y9k (l:List Int) (k next:Int):List (List Int)×Int×Int:=
 if u1g next l≠0 then([],0,u1g next l)else if k≤0 then([],next,0)else if(l.length:Int)<k then([[]],next,0)
 else if((decide (next+((k*(k-1)).tdiv 2+k*((l.length:Int)-k+1))-1>65536))||decide (2*((k*(k-1)).tdiv 2+k*((l.length:Int)-k+1))-(l.length:Int)+1>65536))=true then([],0,2)
 else(v2d l k next l.length++[nz [u6j (cAb k next l.length).1 (cAb k next l.length).2.1 k]],(cAb k next l.length).2.2,0)
section
variable {l:List Int} {k next:Int}
end
end Go.Proofs.YteikjpbbhopkaaaGreatDoor.Cn
namespace Go.Proofs.YteikjpbbhopkaaaGreatDoor.Cn
open Go
def evB (C:List Int):Bool:=(C.all fun c=>c==C.getD 0 0)&& !(C.length==0)
def evK (C:List Int) (B:Int):Int:=if evB C=true then(B-1).tdiv (C.getD 0 0)+1 else 0
def q2m (C:List Int) (B:Int):Int:=
 if C.length=0 then(if B=0 then 5 else 6)else if evB C=true∧C.getD 0 0=B then 1 else if evB C=true∧C.length≤10 then 2 else if evB C=true∧(C.length:Int)*evK C B≤400 then 3 else 4
def z0f (C:List Int) (B:Int):Prop:=C.length≤4096∧(∀c∈C,1≤c∧c≤4503599627370496)∧0≤B∧B≤4503599627370496∧(C.length≠0→1≤B∧B≤C.sum)
theorem x6u {c:Int}:∀{C:List Int},(∀x∈C,x=c)→C.sum=C.length*c
 |[],_=>by simp
 |x::C,h=>by
  rw[Qq5,x6u fun y hy=>h y (Qb7 _ hy),h x Qb4,Qa8,Qr5,Int.add_mul]
  omega
theorem j6m {C:List Int} {B:Int} (h:z0f C B) (he:evB C=true):C.length≠0∧1≤C.getD 0 0∧C.getD 0 0≤4503599627370496∧1≤evK C B∧evK C B≤C.length∧B≤evK C B*C.getD 0 0∧(evK C B-1)*C.getD 0 0<B:=by
 obtain⟨h1,h2,h3,h4,h5⟩:=h
 have he':=he
 unfold evB at he
 simp only[Qa2,Qh1,beq_iff_eq,Qd1,beq_eq_false_iff_ne]at he
 obtain⟨e1,e2⟩:=he
 have hc:=h2 _ (q0t (d:=(0:Int)) (show 0<C.length by omega))
 have hs:=x6u e1
 have hB:=h5 e2
 have ek:evK C B=(B-1)/C.getD 0 0+1:=by
  unfold evK;rw[if_pos he',Int.tdiv_eq_ediv_of_nonneg (by omega)]
 generalize C.getD 0 0=c at*
 have hq:=Int.mul_ediv_add_emod (B-1) c
 have hr0:=Int.emod_nonneg (B-1) (show c≠0 by omega)
 have hr1:=Int.emod_lt_of_pos (B-1) (show 0<c by omega)
 have hq0:0≤(B-1)/c:=Int.ediv_nonneg (by omega) (by omega)
 have hqn:(B-1)/c<C.length:=by
  refine Int.ediv_lt_of_lt_mul (by omega) ?_
  omega
 rw[ek]
 have m1:((B-1)/c+1)*c=c*((B-1)/c)+c:=by rw[Int.add_mul,Qr3];omega
 have m2:((B-1)/c+1-1)*c=c*((B-1)/c):=by rw[Int.add_sub_cancel,Qr3]
 rw[m1,m2]
 refine⟨e2,hc.1,hc.2,by omega,by omega,by omega,by omega⟩
def k6m (g:Int) (l:List Int):List Int:=if g≠0 then[-g]++l else l
def grd (g:Int) (c:List (List Int)):List (List Int):=c.map (k6m g)
theorem y8d {g:Int} {c:List (List Int)} {i:Nat} (h:i<c.length):grd g (c.take i)++[k6m g (c.getD i [])]=grd g (c.take (i+1)):=by
 unfold grd;rw[q6h (d:=[]) h,Qd4];rfl
theorem z7q (g:Int) (c:List (List Int)):(grd g c).length=c.length:=by unfold grd;rw[Qa9]
theorem v1c {C:List Int} {B:Int} {i:Nat} (hi:i<C.length) (h:C.getD i 0≠C.getD 0 0):evK C B=0∧evB C=false:=by
 have e:evB C=false:=by
  unfold evB
  rw[Qd5]
  exact .inl (List.all_eq_false.2 ⟨_,q0t (d:=(0:Int)) hi,by simpa using h⟩)
 exact⟨by unfold evK;rw[e];rfl,e⟩
theorem u6y {C:List Int} {B:Int} (h:(C.length:Int)=0):evK C B=0∧evB C=false:=by
 have e:evB C=false:=by
  unfold evB
  rw[Qd5]
  exact .inr (by simp;cases C with|nil=>rfl|cons x l=>simp at h;omega)
 exact⟨by unfold evK;rw[e];rfl,e⟩
theorem u9i {C:List Int} {B:Int} {i:Nat} (hi:i=C.length) (h:∀j,j<i→C.getD j 0=C.getD 0 0) (h0:¬(C.length:Int)=0):evK C B=(B-1).tdiv (C.getD 0 0)+1∧evB C=true:=by
 have e:evB C=true:=by
  unfold evB
  rw[Qa2]
  refine⟨List.all_eq_true.2 fun x hx=>?_,by simpa using h0⟩
  obtain⟨j,hj,rfl⟩:=List.getElem_of_mem hx
  have:=h j (by omega)
  rw[Qa1,Qa0 hj]at this
  simpa using this
 exact⟨by unfold evK;rw[e];rfl,e⟩
theorem u2g {C:List Int} {B:Int} (h:z0f C B):0≤B∧B≤4503599627370496:=⟨h.2.2.1,h.2.2.2.1⟩
theorem v3e {C:List Int} {B:Int} (h:z0f C B) (h0:¬(C.length:Int)=0):1≤C.getD 0 0∧1≤B∧0≤(B-1).tdiv (C.getD 0 0)∧(B-1).tdiv (C.getD 0 0)≤4503599627370496:=by
 have hc:=h.2.1 _ (q0t (d:=(0:Int)) (show 0<C.length by omega))
 have hB:=(h.2.2.2.2 (by omega)).1
 have hb:=u2g h
 refine⟨hc.1,hB,?_⟩
 rw[Int.tdiv_eq_ediv_of_nonneg (by omega)]
 exact⟨Int.ediv_nonneg (by omega) (by omega),Qo2 (Int.ediv_le_self _ (by omega)) (by omega)⟩
theorem v1l {C:List Int} {B:Int} (h:z0f C B) (he:evB C=true):0≤(C.length:Int)*evK C B∧(C.length:Int)*evK C B≤16777216:=by
 obtain⟨f1,f2,f3,f4,f5,f6,f7⟩:=j6m h he
 have h1:=h.1
 exact⟨Int.mul_nonneg (by omega) (by omega),Qo2 (Int.mul_le_mul (show(C.length:Int)≤4096 by omega) (show evK C B≤4096 by omega) (by omega) (by omega)) (by omega)⟩
section
variable {C:List Int} {B:Int}
theorem v3q (h:(((C.length:Int)==0)&&(B==0))=true):q2m C B=5:=by
 simp only[Qa2,beq_iff_eq]at h
 unfold q2m;rw[if_pos (by omega),if_pos h.2]
theorem v3o (h5:(((C.length:Int)==0)&&(B==0))=false) (h:(C.length:Int)=0):q2m C B=6:=by
 simp only[Qd5,beq_eq_false_iff_ne]at h5
 unfold q2m;rw[if_pos (by omega),if_neg (by omega)]
theorem v3a (h6:¬(C.length:Int)=0) (h:(evB C&&(C.getD 0 0==B))=true):q2m C B=1:=by
 simp only[Qa2,beq_iff_eq]at h
 unfold q2m;rw[if_neg (by omega),if_pos h]
theorem v3r (h6:¬(C.length:Int)=0) (h1:(evB C&&(C.getD 0 0==B))=false) (h:(evB C&&decide ((C.length:Int)≤10))=true):q2m C B=2:=by
 simp only[Qa2,decide_eq_true_eq]at h
 have h1':¬(evB C=true∧C.getD 0 0=B):=fun q=>by rw[q.1,q.2]at h1;simp at h1
 unfold q2m;rw[if_neg (by omega),if_neg h1',if_pos ⟨h.1,by omega⟩]
theorem v3g (h6:¬(C.length:Int)=0) (h1:(evB C&&(C.getD 0 0==B))=false) (h2:(evB C&&decide ((C.length:Int)≤10))=false) (h:(evB C&&decide ((C.length:Int)*evK C B≤400))=true):q2m C B=3:=by
 simp only[Qa2,decide_eq_true_eq]at h
 have h1':¬(evB C=true∧C.getD 0 0=B):=fun q=>by rw[q.1,q.2]at h1;simp at h1
 have h2':¬(evB C=true∧C.length≤10):=fun q=>by rw[q.1]at h2;simp at h2;omega
 unfold q2m;rw[if_neg (by omega),if_neg h1',if_neg h2',if_pos h]
theorem v3w (h6:¬(C.length:Int)=0) (h1:(evB C&&(C.getD 0 0==B))=false) (h2:(evB C&&decide ((C.length:Int)≤10))=false) (h:(evB C&&decide ((C.length:Int)*evK C B≤400))=false):q2m C B=4:=by
 have h1':¬(evB C=true∧C.getD 0 0=B):=fun q=>by rw[q.1,q.2]at h1;simp at h1
 have h2':¬(evB C=true∧C.length≤10):=fun q=>by rw[q.1]at h2;simp at h2;omega
 have h3':¬(evB C=true∧(C.length:Int)*evK C B≤400):=fun q=>by rw[q.1]at h;simp at h;omega
 unfold q2m;rw[if_neg (by omega),if_neg h1',if_neg h2',if_neg h3']
end
theorem v1y {g:Int} {c:List (List Int)} {i:Nat} (hi:i<c.length) (h:g≠0):grd g (c.take i)++[([]++[-g])++c.getD i []]=grd g (c.take (i+1)):=by
 rw[←y8d hi];unfold k6m;rw[if_pos h];rfl
theorem v1z {g:Int} {c:List (List Int)} {i:Nat} (hi:i<c.length) (h:g=0):grd g (c.take i)++[[]++c.getD i []]=grd g (c.take (i+1)):=by
 rw[←y8d hi];unfold k6m;rw[if_neg (by simpa using h)];rfl
theorem u7p (g:Int) (c:List (List Int)) (i:Nat):(grd g (c.take i)).length≤i:=by rw[z7q,Qd0];omega
end Go.Proofs.YteikjpbbhopkaaaGreatDoor.Cn
namespace Go.Proofs.YteikjpbbhopkaaaGreatDoor
def v1m (ls:List Int) (x:Int):Bool:= !(q4j 65536 x)&& !(ls.any (· ==x))&& !(ls.any (· == -x))
def Good (ls:List Int) (n:Nat):Prop:=∀i,i<n→v1m (ls.take i) (ls.getD i 0)=true
end Go.Proofs.YteikjpbbhopkaaaGreatDoor
namespace Go.Proofs.YteikjpbbhopkaaaGreatDoor
theorem x3y {l:q4p} (h:q0o l 65536=0):(q0j l).C.length=(q0j l).L.length∧(∀y∈(q0j l).L,y≠0∧-65536≤y∧y≤65536)∧(∀c∈(q0j l).C,0<c)∧q1e ((q0j l).C.zip (q0j l).L)≤4503599627370496:=by
 have hx:=(q1l h).2.2.2.2.2.1
 have hs:=j5n h (q0h l.L).length
 rw[Qd3]at hs
 rw[q0j,if_pos h,q6g]
 split
 ·exact⟨rfl,fun y hy=>(by cases hy),fun c hc=>(by cases hc),by decide⟩
 ·split
  ·exact⟨rfl,fun y hy=>(by cases hy),fun c hc=>(by cases hc),by decide⟩
  ·rename_i hb _
   refine⟨by simp,fun y hy=>?_,fun c hc=>?_,?_⟩
   ·obtain⟨q,hq,rfl⟩:=List.mem_map.1 hy
    obtain⟨v,hv,e⟩:=z7f hq
    have:=j5r hx v hv
    rcases e with e|e<;>rw[e]<;>omega
   ·obtain⟨q,hq,rfl⟩:=List.mem_map.1 hc
    have:=q6n l _ q hq
    simp only at*
    omega
   ·rw[z5u]
    refine Qo2 ?_ hs.2
    generalize l.B-q2s l (q0h l.L)=b
    generalize q0u l (q0h l.L)=ts
    induction ts with
    |nil=>simp[q1e]
    |cons q t ih=>simp only[Qc6,q1e];omega
end Go.Proofs.YteikjpbbhopkaaaGreatDoor
namespace Go.Proofs.YteikjpbbhopkaaaGreatDoor
def u6p (l:List Int):Prop:=Inc (l.map fun x=>(x.natAbs:Int))
structure Canon (x:q4p):Prop where
 len:x.C.length=x.L.length
 co:∀c∈x.C,1≤c∧c≤x.B
 inc:u6p x.L
 nil:x.C=[]→x.B=0∨x.B=1
 full:x.C≠[]→1≤x.B∧x.B≤q1e (x.C.zip x.L)
theorem j2k (l:q4p):∀vs:List Int,Inc vs→(∀v∈vs,0<v)→u6p ((q0u l vs).map (·.2))
 |[],_,_=>by simp[q0u,u6p,Inc]
 |v::t,hi,hp=>by
  have ih:=j2k l t hi.2 (fun u hu=>hp u (by simp[hu]))
  have hv:=hp v (by simp)
  have e:q0u l (v::t)=q5s (cf l v) (cf l (-v)) v++q0u l t:=by simp[q0u]
  have hgt:∀y∈((q0u l t).map (·.2)).map (fun x=>(x.natAbs:Int)),v<y:=fun y hy=>by
   simp only[Ql8,Qo0]at hy
   obtain⟨q,hq,rfl⟩:=hy
   obtain⟨u,hu,h⟩:=z7f hq
   have h1:=hi.1 u hu
   simp only[Function.comp_apply]
   rcases h with h|h<;>rw[h]<;>omega
  rw[e]
  unfold q5s u6p at*
  split
  ·simp only[Qc9,Qg8,Qc6,Inc]
   refine⟨fun y hy=>?_,ih⟩
   have:=hgt y hy
   omega
  ·split
   ·simp only[Qc9,Qg8,Qc6,Inc]
    refine⟨fun y hy=>?_,ih⟩
    have:=hgt y hy
    omega
   ·simpa using ih
theorem x6d (B:Int) (hB:0≤B):∀ts:List (Int×Int),(∀q∈ts,0<q.1)→B≤q1e ts→B≤q1e (ts.map fun q=>(min q.1 B,q.2))
 |[],_,h=>by simpa[q1e]using h
 |q::t,hp,h=>by
  have hq:=hp q (by simp)
  simp only[q1e,Qc6]at h⊢
  have hnn:0≤q1e (t.map fun q=>(min q.1 B,q.2)):=by
   have:∀s:List (Int×Int),(∀q∈s,0<q.1)→0≤q1e (s.map fun q=>(min q.1 B,q.2)):=fun s=>by
    induction s with
    |nil=>intro _;simp[q1e]
    |cons u s ih=>intro hs;have:=ih (fun q hq=>hs q (by simp[hq]));have:=hs u (by simp);simp only[Qc6,q1e];omega
   exact this t (fun u hu=>hp u (by simp[hu]))
  rcases Int.le_total B q.1 with h1|h1
  ·omega
  ·have hle:q1e t-B≤q1e (t.map fun q=>(min q.1 B,q.2))-B∨B≤q1e (t.map fun q=>(min q.1 B,q.2))∨q1e (t.map fun q=>(min q.1 B,q.2))=q1e t:=by
    have:∀s:List (Int×Int),(∀q∈s,0<q.1)→B≤q1e (s.map fun q=>(min q.1 B,q.2))∨q1e (s.map fun q=>(min q.1 B,q.2))=q1e s:=fun s=>by
     induction s with
     |nil=>intro _;right;rfl
     |cons u s ih=>
      intro hs
      have h0:=hs u (by simp)
      have hs':∀q∈s,0<q.1:=fun q hq=>hs q (by simp[hq])
      have hn:0≤q1e (s.map fun q=>(min q.1 B,q.2)):=by
       clear ih
       induction s with
       |nil=>simp[q1e]
       |cons u s ih=>have:=ih (fun q hq=>hs q (by simp at hq⊢;rcases hq with h|h;exact .inl h;exact .inr (.inr h))) (fun q hq=>hs' q (by simp[hq]));have:=hs' u (by simp);simp only[Qc6,q1e];omega
      simp only[Qc6,q1e]
      rcases ih hs' with h|h
      ·left;omega
      ·rcases Int.le_total B u.1 with h2|h2
       ·left;omega
       ·right;omega
    rcases this t (fun u hu=>hp u (by simp[hu]))with h|h
    ·exact .inr (.inl h)
    ·exact .inr (.inr h)
   omega
theorem u0t:Canon k4o:=⟨rfl,by simp[k4o],by simp[k4o,u6p,Inc],fun _=>.inl rfl,fun h=>absurd rfl h⟩
theorem u9p:Canon ⟨[],[],1⟩:=⟨rfl,by simp,by simp[u6p,Inc],fun _=>.inr rfl,fun h=>absurd rfl h⟩
theorem y4p {l:q4p} (hz:∀x∈l.L,x≠0):Canon (q6g l):=by
 have hi:=j2k l _ (q9i l.L) (y7q hz)
 have hp:=q6n l (q0h l.L)
 unfold q6g
 generalize q2s l (q0h l.L)=m at*
 generalize q0u l (q0h l.L)=ts at*
 split
 ·exact u0t
 ·split
  ·exact u9p
  ·refine⟨by simp,fun c hc=>?_,hi,fun h=>?_,fun _=>?_⟩
   ·simp only[Qo0]at hc
    obtain⟨q,hq,rfl⟩:=hc
    have:=hp q hq
    simp only
    omega
   ·simp only[List.map_eq_nil_iff]at h
    subst h
    simp only[q1e]at*
    omega
   ·simp only
    rw[z5u]
    exact⟨by omega,x6d _ (by omega) ts hp (by omega)⟩
theorem x2r (l:q4p):Canon (q0j l):=by
 unfold q0j
 split
 ·rename_i h
  exact y4p fun x hx=>((q1l h).2.2.2.2.2.1 x hx).1
 ·exact u0t
end Go.Proofs.YteikjpbbhopkaaaGreatDoor
namespace Go.Proofs.YteikjpbbhopkaaaGreatDoor.Cn
open Go
def q2l (C L:List Int) (next:Int):List Int×List (List Int)×Int×Int:=match z1o C L next with|.err e=>([],[],0,e)|.ok b c a=>(b,c,a,0)
def q1o (l:List Int) (k:Int):List (List Int)×Int:=match q3d l k with|.err e=>([],e)|.ok c=>(c,0)
theorem z5r (C L:List Int) (n:Int):(q2l C L n).1.length≤70000∧(q2l C L n).2.1.length≤7000000∧∀c∈(q2l C L n).2.1,c.length≤100:=by
 unfold q2l
 cases h:z1o C L n with
 |err e=>exact⟨Qc1 _,Qc1 _,fun c hc=>by cases hc⟩
 |ok b c a=>exact x6m h
theorem z0b (l:List Int) (k:Int):(q1o l k).1.length≤64∧∀c∈(q1o l k).1,c.length≤l.length:=by
 unfold q1o
 cases h:q3d l k with
 |err e=>exact⟨Qc1 _,fun c hc=>by cases hc⟩
 |ok c=>
  unfold q3d at h
  split at h
  ·cases h
  ·split at h
   ·cases h
   ·injection h with h
    subst h
    refine⟨j0d _ _ _,fun c hc=>?_⟩
    unfold q1x at hc
    obtain⟨t,_,rfl⟩:=List.mem_map.1 hc
    exact y9x _ _ _ _
section
variable {C L:List Int} {B g next:Int}
def v3s (C L:List Int) (B g next:Int):List (List Int)×Int×Int:=
 if(j0f (evK C B) L next).2.2.2≠0 then([],0,(j0f (evK C B) L next).2.2.2)
 else((j0f (evK C B) L next).2.1++grd g [((j0f (evK C B) L next).1.take (evK C B).toNat).drop (evK C B-1).toNat],(j0f (evK C B) L next).2.2.1,0)
def v3d (C L:List Int) (B g next:Int):List (List Int)×Int×Int:=
 if(y9k L (evK C B) next).2.2≠0 then([],0,(y9k L (evK C B) next).2.2)else(grd g (y9k L (evK C B) next).1,(y9k L (evK C B) next).2.1,0)
def z8w (C L:List Int) (B g next:Int):List (List Int)×Int×Int:=
 if(q2l C L next).2.2.2≠0 then([],0,(q2l C L next).2.2.2)
 else if(q1o (q2l C L next).1 B).2≠0 then([],0,(q1o (q2l C L next).1 B).2)
 else((q2l C L next).2.1++grd g (q1o (q2l C L next).1 B).1,(q2l C L next).2.2.1,0)
theorem j1n (h:(q2l C L next).2.2.2≠0):z8w C L B g next=([],0,(q2l C L next).2.2.2):=by unfold z8w;rw[if_pos h]
theorem z3x (h:(q2l C L next).2.2.2=0) (h2:(q1o (q2l C L next).1 B).2≠0):z8w C L B g next=([],0,(q1o (q2l C L next).1 B).2):=by unfold z8w;rw[if_neg (by omega),if_pos h2]
theorem x2n (h:(q2l C L next).2.2.2=0) (h2:(q1o (q2l C L next).1 B).2=0):z8w C L B g next=((q2l C L next).2.1++grd g (q1o (q2l C L next).1 B).1,(q2l C L next).2.2.1,0):=by
 unfold z8w;rw[if_neg (by omega),if_neg (by omega)]
end
def encS (C L:List Int) (B g next:Int):List (List Int)×Int×Int:=
 if q2m C B=1 then(grd g [L],next,0)else if q2m C B=2 then v3s C L B g next else if q2m C B=3 then v3d C L B g next
 else if q2m C B=4 then z8w C L B g next else if q2m C B=5 then([],next,0)else(grd g [[]],next,0)
theorem u5p (C:List Int) (B:Int):q2m C B=1∨q2m C B=2∨q2m C B=3∨q2m C B=4∨q2m C B=5∨q2m C B=6:=by
 unfold q2m
 split
 ·split<;>simp
 ·split
  ·simp
  ·split
   ·simp
   ·split<;>simp
section
variable {C L:List Int} {B g next:Int}
theorem z4v (h:q2m C B=1):encS C L B g next=(grd g [L],next,0):=by unfold encS;rw[if_pos h]
theorem z4j (h:q2m C B=4):encS C L B g next=z8w C L B g next:=by unfold encS;rw[if_neg (by omega),if_neg (by omega),if_neg (by omega),if_pos h]
theorem z5k (h:q2m C B=5):encS C L B g next=([],next,0):=by unfold encS;rw[if_neg (by omega),if_neg (by omega),if_neg (by omega),if_neg (by omega),if_pos h]
theorem z5c (h:q2m C B=6):encS C L B g next=(grd g [[]],next,0):=by unfold encS;rw[if_neg (by omega),if_neg (by omega),if_neg (by omega),if_neg (by omega),if_neg (by omega)]
end
theorem y3u {C L:List Int} {B n:Int} (h:q0o ⟨C,L,B⟩ n=0):z0f (q0j ⟨C,L,B⟩).C (q0j ⟨C,L,B⟩).B∧(q0j ⟨C,L,B⟩).L.length=(q0j ⟨C,L,B⟩).C.length∧(∀x∈(q0j ⟨C,L,B⟩).L,x≠0∧-65536≤x∧x≤65536):=by
 obtain⟨h1,h2,h3⟩:=q1l h
 obtain⟨e,hc,hl,hb0,hb1⟩:=x3c h1 h2 h
 obtain⟨f1,f2,f3,f4⟩:=x3y hc
 have hcan:=x2r ⟨C,L,B⟩
 refine⟨⟨Qc0 hl h3.2.2.2.2,fun c hm=>?_,hb0,hb1,fun hn=>?_⟩,f1.symm,f2⟩
 ·have:=hcan.co c hm
  omega
 ·have hf:=hcan.full fun e0=>hn (by rw[e0];rfl)
  refine⟨hf.1,?_⟩
  have:∀(X Y:List Int),X.length=Y.length→q1e (X.zip Y)=X.sum:=by
   intro X
   induction X with
   |nil=>intro Y _;rfl
   |cons x X ih=>
    intro Y hY
    cases Y with
    |nil=>simp at hY
    |cons y Y=>simp only[Qh5,q1e,Qq5,ih Y (by simpa using hY)]
  rw[this _ _ f1]at hf
  exact hf.2
def q3j (C L:List Int) (B g next:Int):List (List Int)×Int×Int:=
 if next<1∨65537<next then([],0,1)else if q0o ⟨C,L,B⟩ (next-1)≠0 then([],0,q0o ⟨C,L,B⟩ (next-1))
 else if next≤g∨g≤-next then([],0,140)else encS (q0j ⟨C,L,B⟩).C (q0j ⟨C,L,B⟩).L (q0j ⟨C,L,B⟩).B g next
def y6a:List (List Int×List Int×Int)→Int→List (List Int)→List (List Int)×Int×Int
 |[],n,c=>(c,n,0)
 |x::t,n,c=>if(q3j x.1 x.2.1 x.2.2 0 n).2.2≠0 then([],0,(q3j x.1 x.2.1 x.2.2 0 n).2.2)else y6a t (q3j x.1 x.2.1 x.2.2 0 n).2.1 (c++(q3j x.1 x.2.1 x.2.2 0 n).1)
def q1q (l:List (List Int×List Int×Int)) (next:Int):List (List Int)×Int×Int:=if next<1∨65537<next then([],0,1)else y6a l next []
section
variable {C L:List Int} {B g next:Int}
theorem j9j (h:next<1∨65537<next):q3j C L B g next=([],0,1):=by unfold q3j;rw[if_pos h]
theorem y7t (h:¬(next<1∨65537<next)) (h2:q0o ⟨C,L,B⟩ (next-1)≠0):q3j C L B g next=([],0,q0o ⟨C,L,B⟩ (next-1)):=by unfold q3j;rw[if_neg h,if_pos h2]
theorem y9o (h:¬(next<1∨65537<next)) (h2:q0o ⟨C,L,B⟩ (next-1)=0) (h3:next≤g∨g≤-next):q3j C L B g next=([],0,140):=by unfold q3j;rw[if_neg h,if_neg (by omega),if_pos h3]
theorem y5i (h:¬(next<1∨65537<next)) (h2:q0o ⟨C,L,B⟩ (next-1)=0) (h3:¬(next≤g∨g≤-next)):q3j C L B g next=encS (q0j ⟨C,L,B⟩).C (q0j ⟨C,L,B⟩).L (q0j ⟨C,L,B⟩).B g next:=by
 unfold q3j;rw[if_neg h,if_neg (by omega),if_neg h3]
end
theorem v0x {next:Int}:(decide (next<1)||decide (next>65537))=true↔next<1∨65537<next:=by
 simp only[Qd2,decide_eq_true_eq,gt_iff_lt,ge_iff_le]
theorem u8r {next:Int} (h:(decide (next<1)||decide (next>65537))=false):¬(next<1∨65537<next):=fun q=>by rw[v0x.2 q]at h;cases h
theorem v2b {g next:Int}:(decide (g≥next)||decide (g≤-next))=true↔next≤g∨g≤-next:=by
 simp only[Qd2,decide_eq_true_eq,gt_iff_lt,ge_iff_le]
theorem v1e {g next:Int} (h:(decide (g≥next)||decide (g≤-next))=false):¬(next≤g∨g≤-next):=fun q=>by rw[v2b.2 q]at h;cases h
theorem j7r {C L:List Int} {n:Int}:0≤(q2l C L n).2.2.1∧(q2l C L n).2.2.1≤65537∧((q2l C L n).2.2.2=0→n≤(q2l C L n).2.2.1):=by
 unfold q2l
 cases h:z1o C L n with
 |err e=>
  refine⟨Qe6 _,by show(0:Int)≤_;decide,fun h0=>?_⟩
  have h0:e=0:=h0
  exfalso
  rw[h0]at h
  unfold z1o at h
  split at h
  ·injection h with h;cases h
  ·split at h
   ·injection h with h;cases h
   ·split at h
    ·injection h with h;cases h
    ·split at h
     ·injection h with h;cases h
     ·cases h
 |ok b c a=>
  have:=k7v h
  exact⟨by show 0≤a;omega,this.2.2,fun _=>this.2.1⟩
def q1r (l:List (List Int×List Int×Int)) (next:Int):Nat→List (List Int)×Int
 |0=>([],next)
 |i+1=>((q1r l next i).1++(q3j (l.getD i ([],[],0)).1 (l.getD i ([],[],0)).2.1 (l.getD i ([],[],0)).2.2 0 (q1r l next i).2).1,(q3j (l.getD i ([],[],0)).1 (l.getD i ([],[],0)).2.1 (l.getD i ([],[],0)).2.2 0 (q1r l next i).2).2.1)
def y3d (l:List (List Int×List Int×Int)) (next:Int) (i:Nat):Int:=(q3j (l.getD i ([],[],0)).1 (l.getD i ([],[],0)).2.1 (l.getD i ([],[],0)).2.2 0 (q1r l next i).2).2.2
theorem j8y {α:Type} {d:α} {l:List α} {i:Nat} (h:i<l.length):l.drop i=l.getD i d::l.drop (i+1):=by
 rw[Qm5 h,Qa1,Qa0 h];rfl
section
variable {l:List (List Int×List Int×Int)} {next:Int} {i:Nat}
theorem v2g (h:¬(next<1∨65537<next)):q1q l next=y6a (l.drop 0) (q1r l next 0).2 (q1r l next 0).1:=if_neg h
theorem u0f (hi:i<l.length) (hI:q1q l next=y6a (l.drop i) (q1r l next i).2 (q1r l next i).1) (h:y3d l next i≠0):q1q l next=([],0,y3d l next i):=by
 rw[hI,j8y hi,y6a];exact if_pos h
theorem x8x (hi:i<l.length) (hI:q1q l next=y6a (l.drop i) (q1r l next i).2 (q1r l next i).1) (h:y3d l next i=0):q1q l next=y6a (l.drop (i+1)) (q1r l next (i+1)).2 (q1r l next (i+1)).1:=by
 rw[hI,j8y hi,y6a];exact if_neg (by unfold y3d at h;omega)
theorem z0n (hi:i=l.length) (hI:q1q l next=y6a (l.drop i) (q1r l next i).2 (q1r l next i).1):q1q l next=((q1r l next i).1,(q1r l next i).2,0):=by
 rw[hI,hi,List.drop_length];rfl
end
end Go.Proofs.YteikjpbbhopkaaaGreatDoor.Cn
namespace Go.Proofs.YteikjpbbhopkaaaGreatDoor.Cn
open Go
theorem z0d {C:List Int} {B:Int} (h:q2m C B≠2∧q2m C B≠3):q2m C B=1∨q2m C B=4∨q2m C B=5∨q2m C B=6:=by
 have:=u5p C B
 omega
def k4e (l:List (List Int×List Int×Int)):Prop:=∀x∈l,∀m:Int,q0o ⟨x.1,x.2.1,x.2.2⟩ m=0→q2m (q0j ⟨x.1,x.2.1,x.2.2⟩).C (q0j ⟨x.1,x.2.1,x.2.2⟩).B≠2∧q2m (q0j ⟨x.1,x.2.1,x.2.2⟩).C (q0j ⟨x.1,x.2.1,x.2.2⟩).B≠3
theorem u5c {C L:List Int} {B g next:Int} (hw:q0o ⟨C,L,B⟩ (next-1)=0→q2m (q0j ⟨C,L,B⟩).C (q0j ⟨C,L,B⟩).B≠2∧q2m (q0j ⟨C,L,B⟩).C (q0j ⟨C,L,B⟩).B≠3):(q3j C L B g next).1.length≤7000064:=by
 have er:∀(e:Int),(([]:List (List Int)),(0:Int),e).1.length≤7000064:=fun e=>Qc1 _
 by_cases h1:next<1∨65537<next
 ·rw[j9j h1];exact er 1
 ·by_cases h2:q0o ⟨C,L,B⟩ (next-1)=0
  ·by_cases h3:next≤g∨g≤-next
   ·rw[y9o h1 h2 h3];exact er 140
   ·rw[y5i h1 h2 h3]
    have hw2:=hw h2
    generalize (q0j ⟨C,L,B⟩)=x at hw2⊢
    rcases z0d hw2 with hk|hk|hk|hk
    ·rw[z4v hk];show(grd g [x.L]).length≤_;rw[z7q];show 1≤_;decide
    ·rw[z4j hk]
     by_cases he:(q2l x.C x.L next).2.2.2=0
     ·by_cases he2:(q1o (q2l x.C x.L next).1 x.B).2=0
      ·rw[x2n he he2]
       have a:=z5r x.C x.L next
       have c:=z0b (q2l x.C x.L next).1 x.B
       show((q2l x.C x.L next).2.1++grd g _).length≤_
       rw[Qa3,z7q];omega
      ·rw[z3x he he2];exact er _
     ·rw[j1n he];exact er _
    ·rw[z5k hk];exact Qc1 _
    ·rw[z5c hk];show(grd g [[]]).length≤_;rw[z7q];show 1≤_;decide
  ·rw[y7t h1 h2];exact er _
theorem x1z {C L:List Int} {B g next:Int} (hw:q0o ⟨C,L,B⟩ (next-1)=0→q2m (q0j ⟨C,L,B⟩).C (q0j ⟨C,L,B⟩).B≠2∧q2m (q0j ⟨C,L,B⟩).C (q0j ⟨C,L,B⟩).B≠3):
 (0≤(q3j C L B g next).2.1∧(q3j C L B g next).2.1≤20000000)∧((q3j C L B g next).2.2=0→1≤next∧next≤(q3j C L B g next).2.1):=by
 have er:∀(e:Int),e≠0→(0≤(([]:List (List Int)),(0:Int),e).2.1∧(([]:List (List Int)),(0:Int),e).2.1≤20000000)∧((([]:List (List Int)),(0:Int),e).2.2=0→1≤next∧next≤(([]:List (List Int)),(0:Int),e).2.1):=
  fun e he=>⟨⟨Qe6 _,by show(0:Int)≤_;decide⟩,fun h=>absurd h he⟩
 by_cases h1:next<1∨65537<next
 ·rw[j9j h1];exact er 1 (by decide)
 ·have hid:∀c:List (List Int),(0≤(c,next,(0:Int)).2.1∧(c,next,(0:Int)).2.1≤20000000)∧((c,next,(0:Int)).2.2=0→1≤next∧next≤(c,next,(0:Int)).2.1):=fun c=>⟨⟨by show 0≤next;omega,by show next≤_;omega⟩,fun _=>⟨by omega,Qe6 _⟩⟩
  by_cases h2:q0o ⟨C,L,B⟩ (next-1)=0
  ·by_cases h3:next≤g∨g≤-next
   ·rw[y9o h1 h2 h3];exact er 140 (by decide)
   ·rw[y5i h1 h2 h3]
    have hw2:=hw h2
    generalize (q0j ⟨C,L,B⟩)=x at hw2⊢
    rcases z0d hw2 with hk|hk|hk|hk
    ·rw[z4v hk];exact hid _
    ·rw[z4j hk]
     by_cases he:(q2l x.C x.L next).2.2.2=0
     ·by_cases he2:(q1o (q2l x.C x.L next).1 x.B).2=0
      ·rw[x2n he he2]
       have b:=j7r (C:=x.C) (L:=x.L) (n:=next)
       exact⟨⟨b.1,by show(q2l x.C x.L next).2.2.1≤_;omega⟩,fun _=>⟨by omega,b.2.2 he⟩⟩
      ·rw[z3x he he2];exact er _ he2
     ·rw[j1n he];exact er _ he
    ·rw[z5k hk];exact hid _
    ·rw[z5c hk];exact hid _
  ·rw[y7t h1 h2];exact er _ h2
theorem y9v {l:List (List Int×List Int×Int)} (h:k4e l) {next:Int} {i:Nat} (hi:i<l.length):(q3j (l.getD i ([],[],0)).1 (l.getD i ([],[],0)).2.1 (l.getD i ([],[],0)).2.2 0 (q1r l next i).2).1.length≤7000064:=
 u5c fun h8=>h _ (q0t hi) _ h8
theorem k1a {l:List (List Int×List Int×Int)} (h:k4e l) {next:Int}:∀i,i≤l.length→(q1r l next i).1.length≤7000064*i
 |0,_=>Qc1 _
 |i+1,hi=>by
  have ih:=k1a h (next:=next) i (by omega)
  have h1:=y9v h (next:=next) (i:=i) (by omega)
  show((q1r l next i).1++_).length≤_
  rw[Qa3];omega
theorem k7h {l:List (List Int×List Int×Int)} (h:k4e l) {next:Int} (hn: -9223372036854775808≤next∧next≤9223372036854775807):∀i,i≤l.length→-9223372036854775808≤(q1r l next i).2∧(q1r l next i).2≤9223372036854775807
 |0,_=>hn
 |i+1,hi=>by
  have hm:l.getD i ([],[],0)∈l:=q0t (by omega)
  have h1:=(x1z (C:=(l.getD i ([],[],0)).1) (L:=(l.getD i ([],[],0)).2.1) (B:=(l.getD i ([],[],0)).2.2) (g:=0) (next:=(q1r l next i).2) fun h8=>h _ hm _ h8).1
  show-9223372036854775808≤(q3j _ _ _ 0 (q1r l next i).2).2.1∧(q3j _ _ _ 0 (q1r l next i).2).2.1≤9223372036854775807
  omega
end Go.Proofs.YteikjpbbhopkaaaGreatDoor.Cn
namespace Go.Proofs.YteikjpbbhopkaaaGreatDoor.Cn
open Go
section
variable {α:Type} [DecidableEq α] {a b:List α} {d:α}
end
end Go.Proofs.YteikjpbbhopkaaaGreatDoor.Cn
namespace Go.Proofs.YteikjpbbhopkaaaGreatDoor.Cn
open Go
section
variable {C L:List Int} {B g next:Int}
end
section
variable {l:List (List Int×List Int×Int)} {next:Int}
theorem k3c (h:¬(next<1∨65537<next)):∀i,i≤l.length→(∀j,j<i→y3d l next j=0)→q1q l next=y6a (l.drop i) (q1r l next i).2 (q1r l next i).1
 |0,_,_=>v2g h
 |i+1,hi,hz=>x8x (by omega) (k3c h i (by omega) fun j hj=>hz j (by omega)) (hz i (by omega))
theorem k7i (h:next<1∨65537<next):y3d l next 0=1:=by
 unfold y3d
 show(q3j _ _ _ 0 next).2.2=1
 rw[j9j h]
theorem u7e {i:Nat} (hi:i<l.length) (hz:∀j,j<i→y3d l next j=0) (he:y3d l next i≠0):q1q l next=([],0,y3d l next i):=by
 by_cases h:next<1∨65537<next
 ·have h0:=k7i (l:=l) h
  rcases Qj7 i with rfl|hp
  ·rw[h0];exact if_pos h
  ·have:=hz 0 hp;omega
 ·exact u0f hi (k3c h i (by omega) hz) he
theorem j6k (h:(q1q l next).2.2=0):∀i,i≤l.length→∀j,j<i→y3d l next j=0
 |0,_,j,hj=>by omega
 |i+1,hi,j,hj=>by
  have ih:=j6k h i (by omega)
  rcases(by omega:j<i∨j=i)with hj|rfl
  ·exact ih j hj
  ·apply Decidable.byContradiction
   intro he
   rw[u7e (by omega) ih he]at h
   exact he h
theorem u1n (h:(q1q l next).2.2=0):q1q l next=((q1r l next l.length).1,(q1r l next l.length).2,0):=by
 have hn:¬(next<1∨65537<next):=fun q=>by
  have:q1q l next=([],0,1):=if_pos q
  rw[this]at h;cases h
 exact z0n rfl (k3c hn l.length (Qb8 _) (j6k h l.length (Qb8 _)))
end
section
variable {l:List (List Int×List Int×Int)} {next:Int} {i:Nat}
end
theorem q6u {x:q4p} {n:Int} (h:q0o x n=0):q0o x 65536=0:=by
 obtain⟨h1,h2,h3,h4,h5,h6,h7⟩:=q1l h
 exact z7o (by decide) (by decide) h3 h4 h5 (fun y hy=>by have:=h6 y hy;omega) h7
section
variable {C L:List Int} {B g next:Int}
theorem x8z (h:(q3j C L B g next).2.2=0):¬(next<1∨65537<next)∧q0o ⟨C,L,B⟩ (next-1)=0∧¬(next≤g∨g≤-next):=by
 by_cases h1:next<1∨65537<next
 ·rw[j9j h1]at h;cases h
 ·by_cases h2:q0o ⟨C,L,B⟩ (next-1)=0
  ·by_cases h3:next≤g∨g≤-next
   ·rw[y9o h1 h2 h3]at h;cases h
   ·exact⟨h1,h2,h3⟩
  ·rw[y7t h1 h2]at h;exact absurd h h2
end
section
variable {C:List Int} {B:Int}
end
end Go.Proofs.YteikjpbbhopkaaaGreatDoor.Cn
namespace Go.Proofs.YteikjpbbhopkaaaGreatDoor.Cn
open Go
def HV (v:Int→Bool):Prop:=∀x:Int,x≠0→v (-x)= !v x
def k8u (v:Int→Bool) (l:List Int):Nat:=(l.filter v).length
section
variable {v:Int→Bool}
theorem y3r {g:Int} {cs:List (List Int)} (h:∀c∈grd g cs,c.any v=true):(g≠0∧v (-g)=true)∨∀c∈cs,c.any v=true:=by
 by_cases hg:g≠0∧v (-g)=true
 ·exact .inl hg
 ·refine .inr fun c hc=>?_
  have:=h (k6m g c) (List.mem_map.2 ⟨c,hc,rfl⟩)
  unfold k6m at this
  split at this
  ·rename_i h0
   rw[Qn3,Qd2]at this
   rcases this with h1|h1
   ·simp at h1;exact absurd ⟨h0,h1⟩ hg
   ·exact h1
  ·exact this
theorem z8l {c:Int}:∀{C L:List Int},C.length=L.length→(∀x∈C,x=c)→q1n v (C.zip L)=c*k8u v L
 |[],[],_,_=>by simp[q1n,k8u]
 |x::C,y::L,hl,hc=>by
  have ih:=z8l (C:=C) (L:=L) (by simpa using hl) fun z hz=>hc z (Qb7 _ hz)
  have hx:=hc x Qb4
  rw[Qh5,q1n,ih,hx]
  unfold k8u
  by_cases hy:v y=true
  ·rw[if_pos hy,Qk4 hy,Qa8]
   rw[Qr5,Int.mul_add]
   simp;omega
  ·rw[if_neg hy,Qk7 hy];omega
 |[],y::L,hl,_=>by simp at hl
 |x::C,[],hl,_=>by simp at hl
theorem u0a {C:List Int} (he:evB C=true):∀x∈C,x=C.getD 0 0:=fun x hx=>by
 unfold evB at he
 rw[Qa2]at he
 simpa using List.all_eq_true.1 he.1 x hx
end
theorem y7v (b:List Bool) (x:Int):z4l b x=q1u b x:=by
 unfold z4l q1u q2q
 congr 1
 by_cases h:x≠0∧-65536≤x∧x≤65536
 ·rw[decide_eq_true h];simp;omega
 ·rw[decide_eq_false h];simp;omega
theorem u6f (b:List Bool):HV (z5l b):=fun x hx=>j7c hx
theorem y3b {b:List Bool} {x:Int} (h:z4l b x=true):z5l b x=true:=by
 unfold z4l at h
 rw[Qa2]at h
 exact h.2
theorem j9b {b:List Bool} {c:List Int} (h:holdsV b c=true):c.any (z5l b)=true:=by
 unfold holdsV at h
 rw[Qf7]at h⊢
 obtain⟨x,hx,hv⟩:=h
 exact⟨x,hx,y3b hv⟩
theorem u0v {b:List Bool} {c:List Int} (h:holdsV b c=true):c.any (q1u b)=true:=by
 unfold holdsV at h
 rw[Qf7]at h⊢
 obtain⟨x,hx,hv⟩:=h
 exact⟨x,hx,by rw[←y7v];exact hv⟩
theorem getD_take {b:List Bool} {i n:Nat} (h:i<n):(b.take n).getD i false=b.getD i false:=by
 rw[Qa1,Qa1,Qn2,if_pos h]
theorem z9q {cs:List (List Int)} {lit:Int} {n:Nat} {b:List Bool} (hb:n≤b.length) (hcs:∀c∈cs,c.any (q1u b)=true) (hf:q0w cs lit n (b.take n)=true):q1u b lit=true:=by
 unfold q0w at hf
 rw[Qf7]at hf
 obtain⟨c,hc,h2⟩:=hf
 rw[Qa2]at h2
 have h3:=hcs c hc
 rw[Qf7]at h3
 obtain⟨x,hx,hv⟩:=h3
 have ho:=h2.2
 unfold q6d at ho
 have hox:=List.all_eq_true.1 ho x hx
 rw[Qd2]at hox
 rcases hox with e|e
 ·rw[beq_iff_eq]at e;rw[←e];exact hv
 ·exfalso
  unfold okO at e
  simp only[Qa2,decide_eq_true_eq]at e
  obtain⟨e1,e2,e3,e4⟩:=e
  have hxn:x.natAbs<n:=by omega
  rw[getD_take hxn]at e4
  unfold q1u at hv
  rw[Qa2]at hv
  have hv2:=hv.2
  rw[decide_eq_true (show x.natAbs<b.length by omega),Qk6]at hv2
  rw[beq_iff_eq]at hv2
  rw[hv2]at e4
  simp at e4
theorem k8z {b:List Bool} {n:Nat} (h1:1≤n) (hb:n<b.length) (h:q1u b (n:Int)=true):b.getD n false=true:=by
 unfold q1u at h
 rw[Qa2]at h
 have h2:=h.2
 rw[decide_eq_true (show(0:Int)<n by omega),show((n:Int)).natAbs=n from rfl,decide_eq_true hb]at h2
 simpa using h2
theorem x6k {b:List Bool} {n:Nat} (h1:1≤n) (hb:n<b.length) (h:q1u b (-(n:Int))=true):b.getD n false=false:=by
 unfold q1u at h
 rw[Qa2]at h
 have h2:=h.2
 rw[decide_eq_false (show¬(0:Int)< -(n:Int) by omega),Qk0,show((n:Int)).natAbs=n from rfl,decide_eq_true hb]at h2
 simpa using h2
theorem told_agree {cs:List (List Int)} {b:List Bool} (hcs:∀c∈cs,c.any (q1u b)=true):∀(m n:Nat) (F:List Bool),1≤n→n+m≤b.length→z0s cs (b.take n) n m=(F,true)→F=b.take (n+m)
 |0,n,F,_,_,h=>by
  rw[z0s]at h
  injection h with h _
  rw[←h];rfl
 |m+1,n,F,h1,hb,h=>by
  rw[z0s]at h
  split at h
  ·injection h with _ h;cases h
  ·rename_i hne
   have hx:q0w cs n n (b.take n)=b.getD n false:=by
    cases hf:q0w cs (n:Int) n (b.take n)with
    |true=>exact(k8z h1 (by omega) (z9q (by omega) hcs hf)).symm
    |false=>
     rw[hf]at hne
     have hf2:q0w cs (-(n:Int)) n (b.take n)=true:=by
      cases h9:q0w cs (-(n:Int)) n (b.take n)with
      |true=>rfl
      |false=>exact absurd h9.symm hne
     exact(x6k h1 (by omega) (z9q (by omega) hcs hf2)).symm
   rw[hx]at h
   have e:b.take n++[b.getD n false]=b.take (n+1):=by
    rw[List.take_add_one,Qa1,Qa0 (show n<b.length by omega)];rfl
   rw[e]at h
   have:=told_agree hcs m (n+1) F (by omega) (by omega) (by exact_mod_cast h)
   rw[this];congr 1;omega
theorem x9j {b:List Bool} {n:Nat} {x:Int} (h:x.natAbs<n):q1u (b.take n) x=q1u b x:=by
 unfold q1u
 rw[getD_take h]
 congr 2
 congr 1
 rw[Qd0,decide_eq_decide]
 omega
theorem k2z {b:List Bool} {n:Nat} {x:Int} (h:x.natAbs<n):z5l (b.take n) x=z5l b x:=by
 unfold z5l
 rw[getD_take h]
 congr 2
 rw[Qd0,decide_eq_decide]
 omega
theorem q5j {p q:Int→Bool}:∀{z:List (Int×Int)},(∀y∈z,p y.2=q y.2)→q1n p z=q1n q z
 |[],_=>rfl
 |y::z,h=>by
  rw[q1n,q1n,h y Qb4,q5j fun w hw=>h w (Qb7 _ hw)]
theorem u3n {C L:List Int} {next:Int} {bits:List Int} {cs:List (List Int)} {after:Int} {b:List Bool} {K:Int} (h:z1o C L next=.ok bits cs after) (hb:after≤b.length) (hK:0≤K) (hK2:K≤4503599627370496)
 (hcs:∀c∈cs,c.any (q1u b)=true) (hls:∀c∈q1x bits K.toNat 64,c.any (q1u b)=true):K≤q1n (z5l b) (C.zip L):=by
 obtain⟨hlen,hn1,hn2,hq,_⟩:=y4w h
 obtain⟨_,z2,z3,z4,z5,_,_,_,zb,zc,_⟩:=z9w h
 have hgl:((b.take next.toNat).length:Int)=next:=by rw[Qd0];omega
 obtain⟨F,t1,t2,t3,t4,t5⟩:=x0x h (b.take next.toNat) hgl
 have hF:F=b.take (next.toNat+(after-next).toNat):=told_agree hcs (after-next).toNat next.toNat F (by omega) (by omega) (by rw[show((next.toNat:Nat):Int)=next by omega];exact t1)
 rw[show next.toNat+(after-next).toNat=after.toNat by omega]at hF
 have hbv:x9c bits F=x9c bits b:=by
  funext i
  unfold x9c
  have:bits.getD i 0=0∨bits.getD i 0∈bits:=by
   by_cases hi:i<bits.length
   ·right;exact q0t hi
   ·left;rw[Qa1,Ql7 (by omega)];rfl
  rcases this with e|e
  ·rw[e,q6v,q6v]
  ·rcases zb _ e with e0|e0
   ·rw[e0,q6v,q6v]
   ·rw[hF,x9j (by obtain⟨_,h1,h2⟩:=e0;omega)]
 have hlc:=z2p bits b K.toNat (by omega)
 rw[List.all_eq_true.2 hls]at hlc
 have hle:=of_decide_eq_true hlc.symm
 rw[←hbv]at hle
 have hsz:j0p (b.take next.toNat) (C.zip L)=q1n (z5l b) (C.zip L):=by
  rw[z9a fun q hqm=>by
   obtain⟨a1,a2,a3⟩:=(hq q hqm).2.2
   exact⟨a1,by omega,by omega⟩]
  exact q5j fun q hqm=>k2z (by obtain⟨a1,a2,a3⟩:=(hq q hqm).2.2;omega)
 rw[←hsz,←t5,←t4]
 omega
end Go.Proofs.YteikjpbbhopkaaaGreatDoor.Cn
namespace Go.Proofs.YteikjpbbhopkaaaGreatDoor.Cn
open Go
def q8i (n x:Int):Prop:=x≠0∧(x.natAbs:Int)<n
def Agr (n:Int) (F G:Nat→Bool):Prop:=∀i:Nat,(i:Int)<n→F i=G i
section
variable {F G:Nat→Bool} {n m x:Int} {l c:List Int}
theorem q8i.up (h:q8i n x) (hn:n≤m):q8i m x:=⟨h.1,by have:=h.2;omega⟩
theorem q8i.neg (h:q8i n x):q8i n (-x):=⟨by have:=h.1;omega,by have:=h.2;omega⟩
theorem z1h (h:Agr n F G) (hx:q8i n x):q3e F x=q3e G x:=by unfold q3e;rw[h x.natAbs hx.2]
theorem x0u (h:Agr n F G):∀{c:List Int},(∀x∈c,q8i n x)→c.any (q3e F)=c.any (q3e G)
 |[],_=>rfl
 |x::c,hc=>by rw[Qh0,Qh0,z1h h (hc x Qb4),x0u h fun y hy=>hc y (Qb7 _ hy)]
theorem j6y (F:Nat→Bool):HV (q3e F):=fun x hx=>by
 unfold q3e
 rw[Qk0]
 by_cases h:0<x
 ·rw[decide_eq_true h,decide_eq_false (by omega)];cases F x.natAbs<;>rfl
 ·rw[decide_eq_false h,decide_eq_true (by omega)];cases F x.natAbs<;>rfl
theorem v0y (h:q3e F x=true) (hm:x∈c):c.any (q3e F)=true:=List.any_eq_true.2 ⟨x,hm,h⟩
end
end Go.Proofs.YteikjpbbhopkaaaGreatDoor.Cn
namespace Go.Proofs.YteikjpbbhopkaaaGreatDoor.Cn
open Go
theorem y7y {cs:List (List Int)}:∀(m:Nat) (n:Int) (b F:List Bool),z0s cs b n m=(F,true)→F.take b.length=b
 |0,n,b,F,h=>by
  rw[z0s]at h
  injection h with h _
  rw[←h,Qd3]
 |m+1,n,b,F,h=>by
  rw[z0s]at h
  split at h
  ·injection h with _ h;cases h
  ·have:=y7y m _ _ F h
   have h2:=congrArg (List.take b.length) this
   rw[List.take_take,Qa3,Qr2 (by omega),Qo5 (Qb8 _),Qd3]at h2
   exact h2
theorem u0u {F:List Bool} {x n:Int} (hF:(F.length:Int)=n) (hn:n≤65537) (hx:q8i n x):q1u F x=q3e (fun i=>F.getD i false) x:=by
 unfold q1u q3e
 obtain⟨h1,h2⟩:=hx
 rw[decide_eq_true (show x≠0∧-65536≤x∧x≤65536 by omega),decide_eq_true (show x.natAbs<F.length by omega)]
 simp
theorem u3d {n x:Int} (h:q0x n x):q8i n x:=⟨h.1,by have:=h.2;omega⟩
theorem y1j {F:List Bool} {n:Int} (hF:(F.length:Int)=n) (hn:n≤65537):∀{c:List Int},(∀x∈c,q8i n x)→c.any (q1u F)=c.any (q3e fun i=>F.getD i false)
 |[],_=>rfl
 |x::c,hc=>by rw[Qh0,Qh0,u0u hF hn (hc x Qb4),y1j hF hn fun y hy=>hc y (Qb7 _ hy)]
theorem k2f {bits:List Int} {K:Nat} {N:Int} (hb:∀b∈bits,b=0∨q0x N b):∀c∈q1x bits K 64,∀x∈c,q8i N x:=by
 intro c hc x hx
 unfold q1x at hc
 obtain⟨t,_,rfl⟩:=List.mem_map.1 hc
 unfold j1f at hx
 obtain⟨j,hj,rfl⟩:=List.mem_map.1 hx
 obtain⟨hj1,hj2⟩:=List.mem_filter.1 hj
 rw[List.mem_range]at hj1
 unfold j8w at hj2
 rw[Qa2,bne_iff_ne]at hj2
 rcases hb _ (q0t (d:=(0:Int)) hj1)with h|h
 ·exact absurd h hj2.1
 ·exact u3d h
theorem u8e {F0:Nat→Bool} {g:List Bool} {n:Int} (hg:(g.length:Int)=n) (hn:n≤65537) (he:∀i,i<g.length→g.getD i false=F0 i):∀{z:List (Int×Int)},(∀q∈z,q8i n q.2)→j0p g z=q1n (q3e F0) z:=by
 intro z hz
 rw[z9a fun q hq=>by have:=hz q hq;exact⟨this.1,by have:=this.2;omega,by have:=this.2;omega⟩]
 refine q5j fun q hq=>?_
 have h:=hz q hq
 rw[←j8q ⟨h.1,by have:=h.2;omega,by have:=h.2;omega⟩,u0u hg hn h]
 exact z1h (n:=n) (fun i hi=>he i (by omega)) h
theorem u5e {C L:List Int} {next:Int} {bits:List Int} {cs:List (List Int)} {after:Int} {K:Int} (h:z1o C L next=.ok bits cs after) (hK:0≤K) (hK2:K≤4503599627370496):
 next≤after∧(∀c∈cs,∀x∈c,q8i after x)∧(∀c∈q1x bits K.toNat 64,∀x∈c,q8i after x)∧
 ∀F0:Nat→Bool,∃F,Agr next F F0∧(∀c∈cs,c.any (q3e F)=true)∧(K≤q1n (q3e F0) (C.zip L)→∀c∈q1x bits K.toNat 64,c.any (q3e F)=true):=by
 obtain⟨hlen,hn1,hn2,hq,_⟩:=y4w h
 obtain⟨_,_,z3,z4,z5,_,_,_,zb,zc,_⟩:=z9w h
 have rc:∀c∈cs,∀x∈c,q8i after x:=fun c hc x hx=>u3d (zc c hc x hx)
 have rl:=k2f (K:=K.toNat) zb
 refine⟨z3,rc,rl,fun F0=>?_⟩
 obtain⟨g,hg⟩:∃g:List Bool,g=(List.range next.toNat).map F0:=⟨_,rfl⟩
 have hgl:(g.length:Int)=next:=by rw[hg,Qa9,Qg4];omega
 have hge:∀i,i<g.length→g.getD i false=F0 i:=fun i hi=>by
  rw[Qa1,Qa0 hi]
  show g[i]=_
  simp only[hg]
  rw[Qg3,Ql3]
 obtain⟨F,t1,t2,t3,t4,t5⟩:=x0x h g hgl
 have hpre:=y7y _ _ _ _ t1
 refine⟨fun i=>F.getD i false,fun i hi=>?_,fun c hc=>?_,fun hle c hc=>?_⟩
 ·show F.getD i false=F0 i
  rw[←hge i (by omega),←hpre,getD_take (by omega)]
 ·rw[←y1j t2 z4 (rc c hc)];exact t3 c hc
 ·rw[←y1j t2 z4 (rl c hc)]
  have hlc:=z2p bits F K.toNat (by omega)
  have hz:=u8e (F0:=F0) hgl hn2 hge (z:=C.zip L) fun q hqm=>u3d (hq q hqm).2.2
  rw[decide_eq_true (show K.toNat≤j3e (x9c bits F) bits.length by omega)]at hlc
  exact List.all_eq_true.1 hlc c hc
end Go.Proofs.YteikjpbbhopkaaaGreatDoor.Cn
namespace Go.Proofs.YteikjpbbhopkaaaGreatDoor.Cn
open Go
section
variable {a:List Bool} {n:Int} {i:Nat}
end
end Go.Proofs.YteikjpbbhopkaaaGreatDoor.Cn
namespace Go.Proofs.YteikjpbbhopkaaaGreatDoor.Cn
open Go
section
variable {v:Int→Bool} {g N:Int} {cs:List (List Int)}
theorem y3m (h:(g≠0∧v (-g)=true)∨∀c∈cs,c.any v=true):∀c∈grd g cs,c.any v=true:=by
 intro c hc
 obtain⟨d,hd,rfl⟩:=List.mem_map.1 hc
 unfold k6m
 by_cases hg:g≠0
 ·rw[if_pos hg,Qn3,Qd2]
  rcases h with h|h
  ·left;rw[Qh0,h.2];rfl
  ·right;exact h d hd
 ·rw[if_neg hg]
  rcases h with h|h
  ·exact absurd h.1 hg
  ·exact h d hd
theorem y4l (hg:g=0∨q8i N g) (h:∀c∈cs,∀x∈c,q8i N x):∀c∈grd g cs,∀x∈c,q8i N x:=by
 intro c hc x hx
 obtain⟨d,hd,rfl⟩:=List.mem_map.1 hc
 unfold k6m at hx
 by_cases h0:g≠0
 ·rw[if_pos h0]at hx
  rcases List.mem_append.1 hx with hx|hx
  ·rw[List.mem_singleton.1 hx]
   rcases hg with hg|hg
   ·exact absurd hg h0
   ·exact hg.neg
  ·exact h d hd x hx
 ·rw[if_neg h0]at hx;exact h d hd x hx
theorem u6h {C L:List Int} {B:Int} (hn:z0f C B) (hl:L.length=C.length) (he:evB C=true) (hc:B≤q1n v (C.zip L)):evK C B≤k8u v L:=by
 obtain⟨f1,f2,f3,f4,f5,f6,f7⟩:=j6m hn he
 rw[z8l hl.symm (u0a he)]at hc
 apply Decidable.byContradiction
 intro hno
 have:=Qo4 (show(k8u v L:Int)≤evK C B-1 by omega) (show 0≤C.getD 0 0 by omega)
 rw[Qr3 (C.getD 0 0) (evK C B-1)]at this
 omega
end
def x3i (F:Nat→Bool) (C L:List Int) (B:Int):Bool:=decide ((q0j ⟨C,L,B⟩).B≤q1n (q3e F) ((q0j ⟨C,L,B⟩).C.zip (q0j ⟨C,L,B⟩).L))
section
variable {C L:List Int} {B g next m:Int}
theorem x0i {F:Nat→Bool} {b:List Bool} (h:q0o ⟨C,L,B⟩ (m-1)=0) (hx:∀x∈(q0j ⟨C,L,B⟩).L,q8i m x) (hb:m≤b.length) (ha:∀i:Nat,1≤i→(i:Int)<m→F i=b.getD i false):y9n ⟨C,L,B⟩ b=x3i F C L B:=by
 have hup:=q6u h
 obtain⟨_,_,q3,_,_,q6,_⟩:=q1l h
 have e:q0j ⟨C,L,B⟩=q6g ⟨C,L,B⟩:=if_pos hup
 unfold y9n
 rw[decide_eq_true hup,Qk6,←z3e (z5l b) ⟨C,L,B⟩ q3 (fun y hy=>(q6 y hy).1) (fun y hy=>j7c hy),←e]
 unfold z9p x3i
 rw[q5j fun q hq=>?_]
 have h1:=hx q.2 (Qf8 hq).2
 unfold z5l q3e
 rw[decide_eq_true (show q.2.natAbs<b.length by have:=h1.2;omega),Qk6,ha q.2.natAbs (by have:=h1.1;omega) h1.2]
end
section
variable {a:List Bool} {next after:Int}
variable {C L:List Int} {B g:Int}
end
section
variable {a:List Bool} {next:Int} {l:List (List Int×List Int×Int)}
end
end Go.Proofs.YteikjpbbhopkaaaGreatDoor.Cn
namespace Go.Proofs.YteikjpbbhopkaaaGreatDoor.Cn
open Go
theorem k7b {C L:List Int} {B next:Int} (hn:z0f C B) (hl:L.length=C.length) (hx:∀x∈L,q8i next x) (hw23:q2m C B≠2∧q2m C B≠3) (hnx:1≤next∧next≤65537) (h0:(encS C L B 0 next).2.2=0):
 (next≤(encS C L B 0 next).2.1∧(encS C L B 0 next).2.1≤65537)∧(∀c∈(encS C L B 0 next).1,∀x∈c,q8i (encS C L B 0 next).2.1 x)∧
 ∀F0:Nat→Bool,B≤q1n (q3e F0) (C.zip L)→∃F,Agr next F F0∧∀c∈(encS C L B 0 next).1,c.any (q3e F)=true:=by
 have hg:(0:Int)=0∨q8i next 0:=.inl rfl
 rcases z0d hw23 with hk|hk|hk|hk
 ·rw[z4v hk]
  refine⟨⟨Qe6 _,hnx.2⟩,y4l hg fun c hc=>by rw[List.mem_singleton.1 hc];exact hx,fun F0 h=>⟨F0,fun _ _=>rfl,y3m (.inr ?_)⟩⟩
  intro c hc
  rw[List.mem_singleton.1 hc]
  have hw:C.length≠0∧evB C=true∧C.getD 0 0=B:=by
   unfold q2m at hk
   split at hk
   ·split at hk<;>omega
   ·rename_i hC
    split at hk
    ·rename_i e;exact⟨hC,e.1,e.2⟩
    ·split at hk
     ·omega
     ·split at hk<;>omega
  have h1:=u6h hn hl hw.2.1 h
  obtain⟨f1,f2,f3,f4,f5,f6,f7⟩:=j6m hn hw.2.1
  have h2:0<k8u (q3e F0) L:=by omega
  obtain⟨x,hxm⟩:=List.exists_mem_of_length_pos h2
  obtain⟨h3,h4⟩:=List.mem_filter.1 hxm
  exact v0y h4 h3
 ·rw[z4j hk]at h0⊢
  by_cases e0:(q2l C L next).2.2.2=0
  ·by_cases e1:(q1o (q2l C L next).1 B).2=0
   ·rw[x2n e0 e1]
    cases hs:z1o C L next with
    |err e=>
     exfalso
     have hq:q2l C L next=([],[],0,e):=by unfold q2l;rw[hs]
     have h9:=j7r (C:=C) (L:=L) (n:=next)
     have:=h9.2.2 e0
     rw[hq]at this
     have:next≤0:=this
     omega
    |ok bits cs after=>
     have hq:q2l C L next=(bits,cs,after,0):=by unfold q2l;rw[hs]
     rw[hq]at e1⊢
     cases hls:q3d bits B with
     |err e=>
      have hq2:q1o bits B=([],e):=by unfold q1o;rw[hls]
      rw[hq2]at e1
      have e1:e=0:=e1
      rw[e1]at hls
      unfold q3d at hls
      split at hls
      ·injection hls with hls;cases hls
      ·split at hls
       ·injection hls with hls;cases hls
       ·cases hls
     |ok more=>
      have hq2:q1o bits B=(more,0):=by unfold q1o;rw[hls]
      rw[hq2]
      have hm:more=q1x bits B.toNat 64:=by
       unfold q3d at hls
       split at hls
       ·cases hls
       ·split at hls
        ·cases hls
        ·injection hls with hls;exact hls.symm
      subst hm
      obtain⟨a1,a2,a3,a4⟩:=u5e hs hn.2.2.1 hn.2.2.2.1
      have a9:=(z9w hs).2.2.2.1
      refine⟨⟨a1,a9⟩,fun c hc=>?_,fun F0 h=>?_⟩
      ·rcases List.mem_append.1 hc with hc|hc
       ·exact a2 c hc
       ·exact y4l (.inl rfl) a3 c hc
      ·obtain⟨F,b1,b2,b3⟩:=a4 F0
       refine⟨F,b1,fun c hc=>?_⟩
       rcases List.mem_append.1 hc with hc|hc
       ·exact b2 c hc
       ·exact y3m (v:=q3e F) (.inr (b3 h)) c hc
   ·rw[z3x e0 e1]at h0;exact absurd h0 e1
  ·rw[j1n e0]at h0;exact absurd h0 e0
 ·rw[z5k hk]
  exact⟨⟨Qe6 _,hnx.2⟩,fun c hc=>(by cases hc),fun F0 _=>⟨F0,fun _ _=>rfl,fun c hc=>(by cases hc)⟩⟩
 ·rw[z5c hk]
  refine⟨⟨Qe6 _,hnx.2⟩,y4l hg fun c hc x hx=>(by rw[List.mem_singleton.1 hc]at hx;cases hx),fun F0 h=>⟨F0,fun _ _=>rfl,y3m ?_⟩⟩
  exfalso
  have hw:C.length=0∧B≠0:=by
   unfold q2m at hk
   split at hk
   ·rename_i h1
    split at hk
    ·omega
    ·rename_i h2;exact⟨h1,h2⟩
   ·split at hk
    ·omega
    ·split at hk
     ·omega
     ·split at hk<;>omega
  rw[Qc8 hw.1]at h
  have h:B≤0:=h
  have:=hn.2.2.1
  have:=hw.2
  omega
theorem k4h {C L:List Int} {B g next:Int} {b:List Bool} (hw23:q2m C B≠2∧q2m C B≠3) (hn:z0f C B) (hl:L.length=C.length) (hx:∀x∈L,x≠0∧-65536≤x∧x≤65536) (hnx:1≤next∧next≤65537) (h0:(encS C L B g next).2.2=0) (hb:(encS C L B g next).2.1≤b.length)
 (hc:∀c∈(encS C L B g next).1,holdsV b c=true):B≤q1n (z5l b) (C.zip L)∨(g≠0∧z5l b (-g)=true):=by
 have hv:=u6f b
 have hx2:∀y∈L,-65537≤y∧y≤65537:=fun y hy=>by have:=hx y hy;omega
 rcases z0d hw23 with hk|hk|hk|hk
 ·rw[z4v hk]at hc
  rcases y3r (v:=z5l b) (g:=g) (cs:=[L]) (fun c hm=>j9b (hc c hm))with h|h
  ·exact .inr h
  ·left
   have hL:=h L Qb4
   rw[Qf7]at hL
   obtain⟨x,hxm,hvx⟩:=hL
   have hw:C.length≠0∧evB C=true∧C.getD 0 0=B:=by
    unfold q2m at hk
    split at hk
    ·split at hk<;>omega
    ·rename_i hC
     split at hk
     ·rename_i e;exact⟨hC,e.1,e.2⟩
     ·split at hk
      ·omega
      ·split at hk<;>omega
   rw[z8l hl.symm (u0a hw.2.1),hw.2.2]
   have:1≤k8u (z5l b) L:=List.length_pos_of_mem (List.mem_filter.2 ⟨hxm,hvx⟩)
   have hB:=(hn.2.2.2.2 hw.1).1
   have:=Qo4 (show(1:Int)≤k8u (z5l b) L by omega) (show 0≤B by omega)
   omega
 ·rw[z4j hk]at hc h0 hb
  by_cases e0:(q2l C L next).2.2.2=0
  ·by_cases e1:(q1o (q2l C L next).1 B).2=0
   ·rw[x2n e0 e1]at hc hb
    cases hs:z1o C L next with
    |err e=>
     have hq:q2l C L next=([],[],0,e):=by unfold q2l;rw[hs]
     have h9:=j7r (C:=C) (L:=L) (n:=next)
     have:=h9.2.2 e0
     rw[hq]at this
     have:next≤0:=this
     omega
    |ok bits cs after=>
     have hq:q2l C L next=(bits,cs,after,0):=by unfold q2l;rw[hs]
     rw[hq]at hc hb e1
     rcases y3r (v:=q1u b) (g:=g) (fun c hm=>u0v (hc c (Qe9 _ hm)))with h|h
     ·right
      refine⟨h.1,?_⟩
      have h2:=h.2
      rw[←y7v]at h2
      exact y3b h2
     ·left
      cases hls:q3d bits B with
      |err e=>
       have hq2:q1o bits B=([],e):=by unfold q1o;rw[hls]
       rw[hq2]at e1
       have e1:e=0:=e1
       rw[e1]at hls
       unfold q3d at hls
       split at hls
       ·injection hls with hls;cases hls
       ·split at hls
        ·injection hls with hls;cases hls
        ·cases hls
      |ok more=>
       have hq2:q1o bits B=(more,0):=by unfold q1o;rw[hls]
       rw[hq2]at h
       have hm:more=q1x bits B.toNat 64:=by
        unfold q3d at hls
        split at hls
        ·cases hls
        ·split at hls
         ·cases hls
         ·injection hls with hls;exact hls.symm
       rw[hm]at h
       exact u3n hs hb hn.2.2.1 hn.2.2.2.1 (fun c hm=>u0v (hc c (Qd7 _ hm))) h
   ·rw[z3x e0 e1]at h0;exact absurd h0 e1
  ·rw[j1n e0]at h0;exact absurd h0 e0
 ·left
  have hw:C.length=0∧B=0:=by
   unfold q2m at hk
   split at hk
   ·rename_i h1
    split at hk
    ·rename_i h2;exact⟨h1,h2⟩
    ·omega
   ·split at hk
    ·omega
    ·split at hk
     ·omega
     ·split at hk<;>omega
  rw[hw.2,Qc8 hw.1];exact Qe6 _
 ·rw[z5c hk]at hc
  rcases y3r (v:=z5l b) (g:=g) (cs:=[[]]) (fun c hm=>j9b (hc c hm))with h|h
  ·exact .inr h
  ·have:=h [] Qb4
   simp at this
theorem k7k {C L:List Int} {B g next:Int} {b:List Bool} (hw:q2m (q0j ⟨C,L,B⟩).C (q0j ⟨C,L,B⟩).B≠2∧q2m (q0j ⟨C,L,B⟩).C (q0j ⟨C,L,B⟩).B≠3) (h0:(q3j C L B g next).2.2=0) (hb:(q3j C L B g next).2.1≤b.length) (hc:∀c∈(q3j C L B g next).1,holdsV b c=true):y9n ⟨C,L,B⟩ b=true∨(g≠0∧z5l b (-g)=true):=by
 obtain⟨h1,h2,h3⟩:=x8z h0
 rw[y5i h1 h2 h3]at h0 hb hc
 obtain⟨n1,n2,n3⟩:=y3u h2
 have hup:=q6u h2
 obtain⟨_,_,q3,_,_,q6,_⟩:=q1l h2
 rcases k4h hw n1 n2 n3 (by omega) h0 hb hc with h|h
 ·left
  unfold y9n
  rw[decide_eq_true hup,Qk6,←z3e (z5l b) ⟨C,L,B⟩ q3 (fun y hy=>(q6 y hy).1) (fun y hy=>j7c hy)]
  have e:q0j ⟨C,L,B⟩=q6g ⟨C,L,B⟩:=if_pos hup
  rw[←e]
  exact decide_eq_true h
 ·exact .inr h
section
variable {C L:List Int} {B next m:Int}
theorem v2h {n:Int} (h:q0o ⟨C,L,B⟩ n=0):∀x∈(q0j ⟨C,L,B⟩).L,q8i (n+1) x:=fun y hy=>by
 obtain⟨h1,h2,h3,h4,h5,h6,h7⟩:=q1l h
 have e:q0j ⟨C,L,B⟩=q6g ⟨C,L,B⟩:=if_pos (q6u h)
 rw[e]at hy
 unfold q6g at hy
 split at hy
 ·cases hy
 ·split at hy
  ·cases hy
  ·obtain⟨q,hq,rfl⟩:=List.mem_map.1 hy
   obtain⟨v,hv,ev⟩:=z7f hq
   have:=j5r h6 v hv
   rcases ev with ev|ev<;>rw[ev]<;>exact⟨by omega,by omega⟩
theorem k8t (hck:q0o ⟨C,L,B⟩ (m-1)=0) (hm:m≤next) (hw:q2m (q0j ⟨C,L,B⟩).C (q0j ⟨C,L,B⟩).B≠2∧q2m (q0j ⟨C,L,B⟩).C (q0j ⟨C,L,B⟩).B≠3) (h0:(q3j C L B 0 next).2.2=0):
 (next≤(q3j C L B 0 next).2.1∧(q3j C L B 0 next).2.1≤65537)∧(∀c∈(q3j C L B 0 next).1,∀x∈c,q8i (q3j C L B 0 next).2.1 x)∧
 (∀F0:Nat→Bool,x3i F0 C L B=true→∃F,Agr next F F0∧∀c∈(q3j C L B 0 next).1,c.any (q3e F)=true)∧
 ∀F:Nat→Bool,(∀c∈(q3j C L B 0 next).1,c.any (q3e F)=true)→x3i F C L B=true:=by
 have h0':=h0
 obtain⟨h1,h2,h3⟩:=x8z h0
 obtain⟨n1,n2,n3⟩:=y3u hck
 have n4:=v2h hck
 have n4':∀x∈(q0j ⟨C,L,B⟩).L,q8i m x:=fun x hx=>by have:=n4 x hx;rwa [Int.sub_add_cancel]at this
 have hob:=x1z (C:=C) (L:=L) (B:=B) (g:=0) (next:=next) fun _=>hw
 have hup:=hob.2 h0
 rw[y5i h1 h2 h3]at h0
 obtain⟨c1,c2,c3⟩:=k7b n1 n2 (fun x hx=>(n4' x hx).up hm) hw (by omega) h0
 rw[←y5i h1 h2 h3]at c1 c2 c3
 refine⟨c1,c2,fun F0 h=>c3 F0 (of_decide_eq_true h),fun F hs=>?_⟩
 obtain⟨A,hA⟩:∃A:Nat,(A:Int)=(q3j C L B 0 next).2.1:=⟨(q3j C L B 0 next).2.1.toNat,by omega⟩
 obtain⟨b,hb⟩:∃b:List Bool,b=(List.range A).map F:=⟨_,rfl⟩
 have hbl:b.length=A:=by rw[hb,Qa9,Qg4]
 have hbg:∀i,i<b.length→b.getD i false=F i:=fun i hi=>by
  rw[Qa1,Qa0 hi]
  show b[i]=_
  simp only[hb]
  rw[Qg3,Ql3]
 have hag:Agr (b.length:Int) (fun i=>b.getD i false) F:=fun i hi=>hbg i (by omega)
 have hAA:(A:Int)≤65537:=by rw[hA];exact c1.2
 have:=k7k (b:=b) hw h0' (by rw[hbl,hA];exact Qe6 _) (fun c hc=>by
  have hr:∀x∈c,q8i (b.length:Int) x:=fun x hx=>by rw[hbl,hA];exact c2 c hc x hx
  have e1:holdsV b c=c.any (q1u b):=by
   unfold holdsV
   congr 1
   funext x;exact y7v b x
  rw[e1,y1j rfl (by omega) hr,x0u hag hr]
  exact hs c hc)
 rcases this with h|h
 ·rw[x0i (F:=F) hck n4' (by omega) (fun i _ hi=>(hbg i (by omega)).symm)]at h
  exact h
 ·exact absurd rfl h.1
end
theorem x1u {next:Int} {l:List (List Int×List Int×Int)} (hntc:k4e l) (hl:∀x∈l,q0o ⟨x.1,x.2.1,x.2.2⟩ (next-1)=0) (h0:∀j,j<l.length→y3d l next j=0):∀i,i≤l.length→
 next≤(q1r l next i).2∧(∀c∈(q1r l next i).1,∀x∈c,q8i (q1r l next i).2 x)∧
 (∀F0:Nat→Bool,(∀x∈l.take i,x3i F0 x.1 x.2.1 x.2.2=true)→∃F,Agr next F F0∧∀c∈(q1r l next i).1,c.any (q3e F)=true)∧
 ∀F:Nat→Bool,(∀c∈(q1r l next i).1,c.any (q3e F)=true)→∀x∈l.take i,x3i F x.1 x.2.1 x.2.2=true
 |0,_=>⟨Qe6 _,fun c hc=>(by cases hc),fun F0 _=>⟨F0,fun _ _=>rfl,fun c hc=>(by cases hc)⟩,fun F _ x hx=>(by cases hx)⟩
 |i+1,hi=>by
  obtain⟨p1,p2,p3,p4⟩:=x1u hntc hl h0 i (by omega)
  have hz:=h0 i (by omega)
  have hmem:l.getD i ([],[],0)∈l:=q0t (by omega)
  have hx:=hl _ hmem
  have hw:=hntc _ hmem _ hx
  have ht:=q6h (d:=(([],[],0):List Int×List Int×Int)) (l:=l) (k:=i) (by omega)
  unfold y3d at hz
  rw[ht]
  have e1:(q1r l next (i+1)).1=(q1r l next i).1++(q3j (l.getD i ([],[],0)).1 (l.getD i ([],[],0)).2.1 (l.getD i ([],[],0)).2.2 0 (q1r l next i).2).1:=rfl
  have e2:(q1r l next (i+1)).2=(q3j (l.getD i ([],[],0)).1 (l.getD i ([],[],0)).2.1 (l.getD i ([],[],0)).2.2 0 (q1r l next i).2).2.1:=rfl
  rw[e1,e2]
  clear e1 e2
  generalize l.getD i ([],[],0)=y at*
  obtain⟨c1,c2,c4,c5⟩:=k8t (m:=next) hx p1 hw hz
  have n4:=v2h hx
  rw[Int.sub_add_cancel]at n4
  refine⟨by omega,fun c hc x hxc=>?_,fun F0 h=>?_,fun F hs x hxm=>?_⟩
  ·rcases List.mem_append.1 hc with hc|hc
   ·exact(p2 c hc x hxc).up c1.1
   ·exact c2 c hc x hxc
  ·obtain⟨F1,f1,f2⟩:=p3 F0 fun x hx=>h x (Qd7 _ hx)
   have hv:=h y (Qe9 _ Qb4)
   have hv1:x3i F1 y.1 y.2.1 y.2.2=true:=by
    rw[←hv]
    unfold x3i
    rw[q5j fun q hq=>z1h f1 (n4 q.2 (Qf8 hq).2)]
   obtain⟨F,g1,g2⟩:=c4 F1 hv1
   refine⟨F,fun j hj=>(g1 j (by omega)).trans (f1 j hj),fun c hc=>?_⟩
   rcases List.mem_append.1 hc with hc|hc
   ·rw[x0u g1 (p2 c hc)];exact f2 c hc
   ·exact g2 c hc
  ·have hs:∀c∈(q1r l next i).1++(q3j y.1 y.2.1 y.2.2 0 (q1r l next i).2).1,c.any (q3e F)=true:=hs
   rcases List.mem_append.1 hxm with hxm|hxm
   ·exact p4 F (fun c hc=>hs c (Qd7 _ hc)) x hxm
   ·rw[List.mem_singleton.1 hxm]
    exact c5 F (fun c hc=>hs c (Qe9 _ hc))
theorem x1m {next:Int} {l:List (List Int×List Int×Int)} (hntc:k4e l) (h0:(q1q l next).2.2=0) (hl:∀x∈l,q0o ⟨x.1,x.2.1,x.2.2⟩ (next-1)=0):
 next≤(q1q l next).2.1∧(∀c∈(q1q l next).1,∀x∈c,q8i (q1q l next).2.1 x)∧
 (∀F0:Nat→Bool,(∀x∈l,x3i F0 x.1 x.2.1 x.2.2=true)→∃F,Agr next F F0∧∀c∈(q1q l next).1,c.any (q3e F)=true)∧
 ∀F:Nat→Bool,(∀c∈(q1q l next).1,c.any (q3e F)=true)→∀x∈l,x3i F x.1 x.2.1 x.2.2=true:=by
 have e:=u1n h0
 have hz:=j6k h0 l.length (Qb8 _)
 obtain⟨p1,p2,p3,p4⟩:=x1u hntc hl (fun j hj=>hz j hj) l.length (Qb8 _)
 rw[Qd3]at p3 p4
 rw[e]
 exact⟨p1,p2,p3,p4⟩
end Go.Proofs.YteikjpbbhopkaaaGreatDoor.Cn
namespace Go.Proofs.YteikjpbbhopkaaaGreatDoor.Cn
open Go
theorem x8v {N:Int}:∀(l:List Int) (a:Int),Inc l→(∀v∈l,a<v∧v≤N)→l.length≤(N-a).toNat
 |[],_,_,_=>Qc1 _
 |x::t,a,h,hv=>by
  have hx:=hv x Qb4
  have:=x8v t x h.2 fun v hvm=>⟨h.1 v hvm,(hv v (Qb7 _ hvm)).2⟩
  rw[Qa8];omega
theorem x9f {C L:List Int} {B n:Int} (h:q0o ⟨C,L,B⟩ n=0):(q0j ⟨C,L,B⟩).L.length≤n.toNat:=by
 obtain⟨h1,h2,h3,h4,h5,h6,h7⟩:=q1l h
 have e:q0j ⟨C,L,B⟩=q6g ⟨C,L,B⟩:=if_pos (q6u h)
 rw[e]
 unfold q6g
 split
 ·exact Qc1 _
 ·split
  ·exact Qc1 _
  ·show((q0u ⟨C,L,B⟩ (q0h L)).map (·.2)).length≤_
   rw[Qa9]
   refine Qc0 (q8n _ _) ?_
   have:=x8v (N:=n) (q0h L) 0 (q9i L) fun v hv=>j5r h6 v hv
   rwa [Int.sub_zero]at this
theorem j6v {cs:List (List Int)} {m:Nat} (h:∀c∈cs,c.length≤m):∀c∈grd 0 cs,c.length≤m:=fun c hc=>by
 obtain⟨d,hd,rfl⟩:=List.mem_map.1 hc
 unfold k6m
 rw[if_neg (by decide)]
 exact h d hd
theorem k8p {C L:List Int} {B next:Int} (hL:L.length≤100) (hw23:q2m C B≠2∧q2m C B≠3):∀c∈(encS C L B 0 next).1,c.length≤100:=by
 have nil:∀c∈([]:List (List Int)),c.length≤100:=fun c hc=>by cases hc
 rcases z0d hw23 with hk|hk|hk|hk
 ·rw[z4v hk];exact j6v fun c hc=>by rw[List.mem_singleton.1 hc];exact hL
 ·rw[z4j hk]
  by_cases e0:(q2l C L next).2.2.2=0
  ·by_cases e1:(q1o (q2l C L next).1 B).2=0
   ·rw[x2n e0 e1]
    intro c hc
    rcases List.mem_append.1 hc with hc|hc
    ·exact(z5r C L next).2.2 c hc
    ·refine j6v (fun d hd=>?_) c hc
     have hb:(q2l C L next).1.length≤60:=by
      generalize (q2l C L next).1=bits at e1
      unfold q1o at e1
      cases hls:q3d bits B with
      |err e=>
       rw[hls]at e1
       have e1:e=0:=e1
       rw[e1]at hls
       unfold q3d at hls
       split at hls
       ·injection hls with hls;cases hls
       ·split at hls
        ·injection hls with hls;cases hls
        ·cases hls
      |ok more=>
       unfold q3d at hls
       split at hls
       ·cases hls
       ·split at hls
        ·cases hls
        ·omega
     have:=(z0b (q2l C L next).1 B).2 d hd
     omega
   ·rw[z3x e0 e1];exact nil
  ·rw[j1n e0];exact nil
 ·rw[z5k hk];exact nil
 ·rw[z5c hk];exact j6v fun c hc=>by rw[List.mem_singleton.1 hc];exact Qc1 _
theorem k7n {C L:List Int} {B next m:Int} (hck:q0o ⟨C,L,B⟩ (m-1)=0) (hm:m≤100) (hw:q2m (q0j ⟨C,L,B⟩).C (q0j ⟨C,L,B⟩).B≠2∧q2m (q0j ⟨C,L,B⟩).C (q0j ⟨C,L,B⟩).B≠3) (h0:(q3j C L B 0 next).2.2=0):
 ∀c∈(q3j C L B 0 next).1,c.length≤100:=by
 obtain⟨h1,h2,h3⟩:=x8z h0
 rw[y5i h1 h2 h3]
 exact k8p (by have:=x9f hck;omega) hw
theorem y8h {next:Int} {l:List (List Int×List Int×Int)} (hntc:k4e l) (hm:next≤100) (hl:∀x∈l,q0o ⟨x.1,x.2.1,x.2.2⟩ (next-1)=0) (h0:∀j,j<l.length→y3d l next j=0):∀i,i≤l.length→∀c∈(q1r l next i).1,c.length≤100
 |0,_=>fun c hc=>by cases hc
 |i+1,hi=>fun c hc=>by
  have hz:=h0 i (by omega)
  have hmem:l.getD i ([],[],0)∈l:=q0t (by omega)
  have hx:=hl _ hmem
  have hw:=hntc _ hmem _ hx
  unfold y3d at hz
  have hc:c∈(q1r l next i).1++(q3j (l.getD i ([],[],0)).1 (l.getD i ([],[],0)).2.1 (l.getD i ([],[],0)).2.2 0 (q1r l next i).2).1:=hc
  rcases List.mem_append.1 hc with hc|hc
  ·exact y8h hntc hm hl h0 i (by omega) c hc
  ·exact k7n (m:=next) hx hm hw hz c hc
theorem k1m {next:Int} {l:List (List Int×List Int×Int)} (hntc:k4e l) (hm:next≤100) (h0:(q1q l next).2.2=0) (hl:∀x∈l,q0o ⟨x.1,x.2.1,x.2.2⟩ (next-1)=0):∀c∈(q1q l next).1,c.length≤100:=by
 have e:=u1n h0
 have hz:=j6k h0 l.length (Qb8 _)
 rw[e]
 exact y8h hntc hm hl (fun j hj=>hz j hj) l.length (Qb8 _)
theorem x1i:∀(l:List (List Int×List Int×Int)) (n:Int) (c:List (List Int)),(y6a l n c).2.2≠0→(y6a l n c).1=[]
 |[],n,c,h=>by rw[y6a]at h;exact absurd rfl h
 |x::t,n,c,h=>by
  rw[y6a]at h⊢
  by_cases he:(q3j x.1 x.2.1 x.2.2 0 n).2.2≠0
  ·rw[if_pos he]
  ·rw[if_neg he]at h⊢
   exact x1i t _ _ h
theorem k6i {l:List (List Int×List Int×Int)} {n:Int} (h:(q1q l n).2.2≠0):(q1q l n).1=[]:=by
 unfold q1q at h⊢
 by_cases h1:n<1∨65537<n
 ·rw[if_pos h1]
 ·rw[if_neg h1]at h⊢;exact x1i l n [] h
end Go.Proofs.YteikjpbbhopkaaaGreatDoor.Cn
