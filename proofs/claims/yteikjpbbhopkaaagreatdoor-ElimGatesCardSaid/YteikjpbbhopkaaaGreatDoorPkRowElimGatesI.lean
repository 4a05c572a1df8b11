/- Lemmas and contracts for the row. -/
import Derived.Test.YteikjpbbhopkaaaGreatDoorPkRowElimGatesB
import Derived.Deep.RegionHeld3
set_option linter.unusedVariables false
set_option linter.unusedSimpArgs false
set_option linter.unnecessarySimpa false
namespace Go.Proofs.YteikjpbbhopkaaaGreatDoor
open Go
section
variable {P : Program} {ops : Array Oper} {Q : Exit → Act → World → Prop} {md : Region.Mode} {S : World → Prop} {k : Nat}
def q5b (P:Program) (md:Region.Mode) (ops:Array Oper) (Q:Exit→Act→World→Prop) (k:Nat) (S:World→Prop):Nat→Array Bool→Act→World→Prop
 |0,listed,a,w=>Region.ready md ops listed=[]∧Q .normal a w
 |fuel+1,listed,a,w=>
  (Region.ready md ops listed=[]→Q .normal a w)∧
  ∀i∈Region.ready md ops listed,wpOp P ops Q i (fun a' w'=>((listed.setIfInBounds i true).getD k false=false→S w')∧q5b P md ops Q k S fuel (listed.setIfInBounds i true) a' w') a w
theorem j2m:∀(fuel:Nat) (listed:Array Bool) (a:Act) (w:World),q5b P md ops Q k S fuel listed a w→wpAny P md ops Q fuel listed a w
 |0,_,_,_,h=>h
 |fuel+1,_,_,_,h=>⟨h.1,fun i hi=>wpOp_mono (fun a' w' h'=>j2m fuel _ a' w' h'.2) (h.2 i hi)⟩
def q8d (md:Region.Mode) (ops:Array Oper) (i:Nat):Nat→Nat→Bool
 |0,_=>false
 |f+1,j=>match ops[j]? with
  |none=>false
  |some o=>o.after.any fun e=>Region.binds md e&&(e.on==i||q8d md ops i f e.on)
def Clo (md:Region.Mode) (ops:Array Oper) (L:Array Bool):Prop:=
 ∀j o,ops[j]? =some o→L.getD j false=true→∀e∈o.after,Region.binds md e=true→L.getD e.on false=true
theorem q4b {L:Array Bool} (hc:Clo md ops L) {i:Nat}:∀(f j:Nat),q8d md ops i f j=true→L.getD j false=true→L.getD i false=true
 |0,_,h,_=>by cases h
 |f+1,j,h,hj=>by
  unfold q8d at h
  cases ho:ops[j]? with
  |none=>rw[ho]at h;cases h
  |some o=>
   rw[ho]at h
   obtain⟨e,he,hb⟩:=Array.any_eq_true'.1 h
   simp only[Qa2,Qd2,beq_iff_eq]at hb
   have h1:=hc j o ho hj e he hb.1
   rcases hb.2 with h2|h2
   ·rw[←h2];exact h1
   ·exact q4b hc f e.on h2 h1
theorem q1m {L:Array Bool} {i:Nat} (h:L.getD i true=false):L.getD i false=false:=by
 rcases Qi7 i L.size with h'|h'
 ·simpa[Array.getD,h']using h
 ·simp[Array.getD,Nat.not_lt.2 h']at h
theorem q1d {L:Array Bool} {i j:Nat} (h:i≠j) (b d:Bool):(L.setIfInBounds i b).getD j d=L.getD j d:=by
 simp[h]
theorem Clo.set_ {L:Array Bool} (hc:Clo md ops L) {j:Nat} (hj:j∈Region.ready md ops L):Clo md ops (L.setIfInBounds j true):=by
 obtain⟨_,oj,hoj,hall⟩:=mem_ready.1 hj
 have up:∀x,L.getD x false=true→(L.setIfInBounds j true).getD x false=true:=fun x hx=>by
  by_cases h:j=x
  ·subst h
   rcases Qi7 j L.size with h'|h'
   ·simp[Array.getD,h']
   ·simp[Array.getD,Nat.not_lt.2 h']at hx
  ·rw[q1d h];exact hx
 intro x o hx hl e he hb
 by_cases h:j=x
 ·subst h
  rw[hoj]at hx
  cases hx
  exact up _ (hall e he hb)
 ·rw[q1d h]at hl
  exact up _ (hc x o hx hl e he hb)
theorem y2i {i:Nat} {oi:Oper} {v:Value} (hi:ops[i]? =some oi) (hsel:∀(j:Nat) (o:Oper) cs b,ops[j]? =some o→o.op≠.select cs b)
 (hQ:∀c a w,Q (.panic c) (a.put oi.dst v) w→Q (.panic c) a w) (hki:k≠i) {f:Nat} (hw:q8d md ops i f k=true):
 ∀(fuel:Nat) (listed:Array Bool) (a:Act) (w:World),Clo md ops listed→
  (∀j oj,ops[j]? =some oj→j≠i→listed.getD j true=false→(∀e∈oj.after,Region.binds md e=true→e.on≠i)→oi.apart ops oj=true)→
  i∈Region.ready md ops listed→YieldsIf P ops S oi v a→S w→
  q5b P md ops Q k S fuel (listed.setIfInBounds i true) (a.put oi.dst v) w→q5b P md ops Q k S (fuel+1) listed a w:=by
 intro fuel
 induction fuel with
 |zero=>
  intro listed a w _ _ hr hy hS H
  refine⟨fun h=>(by rw[h]at hr;cases hr),fun j hj=>?_⟩
  by_cases hji:j=i
  ·subst hji;exact hy.wpOp hi hS ⟨fun _=>hS,H⟩
  ·have:=ready_mono hj hji
   rw[H.1]at this
   cases this
 |succ fuel ih=>
  intro listed a w hclo hfree hr hy hS H
  refine⟨fun h=>(by rw[h]at hr;cases hr),fun j hj=>?_⟩
  by_cases hji:j=i
  ·subst hji;exact hy.wpOp hi hS ⟨fun _=>hS,H⟩
  ·have h1:=H.2 j (ready_mono hj hji)
   obtain⟨hjun,oj,hoj,hall⟩:=mem_ready.1 hj
   have hiun:=(mem_ready.1 hr).1
   have hnot:∀e∈oj.after,Region.binds md e=true→e.on≠i:=fun e he hb heq=>by
    have h1:=hall e he hb
    rw[heq,q1m hiun]at h1
    cases h1
   have h2:=wpOp_putIf hoj (hfree j oj hoj hji hjun hnot) (fun cs b=>hsel i oi cs b hi) (fun cs b=>hsel j oj cs b hoj) hQ hy h1
   have hfree':∀k ok,ops[k]? =some ok→k≠i→(listed.setIfInBounds j true).getD k true=false→
    (∀e∈ok.after,Region.binds md e=true→e.on≠i)→oi.apart ops ok=true:=fun k ok hk hki hun hno=>by
    refine hfree k ok hk hki ?_ hno
    by_cases hjk:j=k
    ·subst hjk;exact hjun
    ·rw[getD_set_ne true hjk]at hun;exact hun
   have hclo':=hclo.set_ hj
   have hiun':(listed.setIfInBounds j true).getD i false=false:=by rw[q1d hji];exact q1m hiun
   have hkun:(listed.setIfInBounds j true).getD k false=false:=by
    cases hx:(listed.setIfInBounds j true).getD k false with
    |false=>rfl
    |true=>rw[q4b hclo' f k hw hx]at hiun';cases hiun'
   have hkun':((listed.setIfInBounds i true).setIfInBounds j true).getD k false=false:=by
    rw[Qk2 _ _ (Ne.symm hji),q1d (Ne.symm hki)];exact hkun
   refine wpOp_mono (fun a' w' h3=>⟨fun _=>h3.2.1 hkun',ih (listed.setIfInBounds j true) a' w' hclo' hfree' (ready_mono hr (Ne.symm hji)) h3.1 (h3.2.1 hkun') ?_⟩) h2
   rw[Qk2 _ _ hji]
   exact h3.2.2
def v1v (md:Region.Mode) (ops:Array Oper) (L:Array Bool):Bool:=
 (List.range ops.size).all fun j=> !(L.getD j false)||((ops[j]?).map fun o=>o.after.all fun e=> !(Region.binds md e)||L.getD e.on false).getD true
theorem x9n {L:Array Bool} (h:v1v md ops L=true):Clo md ops L:=by
 intro j o hj hl e he hb
 have hlt:j<ops.size:=(Array.getElem?_eq_some_iff.1 hj).1
 have:=(List.all_eq_true.1 h) j (List.mem_range.2 hlt)
 rw[hl,hj]at this
 simp only[Qm1,Qm2,Qg1,Qr0]at this
 have:=Array.all_eq_true_iff_forall_mem.1 this e he
 rw[hb]at this
 simpa using this
theorem z8m {i:Nat} {oi:Oper} {v:Value} {fuel:Nat} {listed:Array Bool} {a:Act} {w:World} (hi:ops[i]? =some oi)
 (hs:Region.noSelect ops=true) (hf:Region.free md ops listed i=true) (hr:(Region.ready md ops listed).contains i=true)
 (hki:Nat.beq k i=false) (hw:q8d md ops i ops.size k=true) (hc:v1v md ops listed=true)
 (hQ:∀c a w,Q (.panic c) (a.put oi.dst v) w→Q (.panic c) a w) (hy:YieldsIf P ops S oi v a) (hS:S w)
 (h:q5b P md ops Q k S fuel (listed.setIfInBounds i true) (a.put oi.dst v) w):q5b P md ops Q k S (fuel+1) listed a w:=
 y2i hi (Region.noSelect_spec hs) hQ (fun e=>by rw[e]at hki;simp at hki) hw fuel listed a w (x9n hc) (Region.free_spec hi hf) (by simpa using hr) hy hS h
theorem j3y {i:Nat} {oi:Oper} {v:Value} (hi:ops[i]? =some oi) (hsel:∀(j:Nat) (o:Oper) cs b,ops[j]? =some o→o.op≠.select cs b)
 (hQ:∀c a w,Q (.panic c) (a.put oi.dst v) w→Q (.panic c) a w) (hki:k≠i):
 ∀(fuel:Nat) (listed:Array Bool) (a:Act) (w:World),
  (∀j oj,ops[j]? =some oj→j≠i→listed.getD j true=false→(∀e∈oj.after,Region.binds md e=true→e.on≠i)→oi.apart ops oj=true)→
  i∈Region.ready md ops listed→YieldsIf P ops (fun _=>True) oi v a→(listed.getD k false=false→S w)→
  q5b P md ops Q k S fuel (listed.setIfInBounds i true) (a.put oi.dst v) w→q5b P md ops Q k S (fuel+1) listed a w:=by
 intro fuel
 induction fuel with
 |zero=>
  intro listed a w _ hr hy hS H
  refine⟨fun h=>(by rw[h]at hr;cases hr),fun j hj=>?_⟩
  by_cases hji:j=i
  ·subst hji;exact hy.wpOp hi trivial ⟨fun h0=>hS (by rw[q1d (Ne.symm hki)]at h0;exact h0),H⟩
  ·have:=ready_mono hj hji
   rw[H.1]at this
   cases this
 |succ fuel ih=>
  intro listed a w hfree hr hy hS H
  refine⟨fun h=>(by rw[h]at hr;cases hr),fun j hj=>?_⟩
  by_cases hji:j=i
  ·subst hji;exact hy.wpOp hi trivial ⟨fun h0=>hS (by rw[q1d (Ne.symm hki)]at h0;exact h0),H⟩
  ·have h1:=H.2 j (ready_mono hj hji)
   obtain⟨hjun,oj,hoj,hall⟩:=mem_ready.1 hj
   have hiun:=(mem_ready.1 hr).1
   have hnot:∀e∈oj.after,Region.binds md e=true→e.on≠i:=fun e he hb heq=>by
    have h1:=hall e he hb
    rw[heq,q1m hiun]at h1
    cases h1
   have h2:=wpOp_putIf hoj (hfree j oj hoj hji hjun hnot) (fun cs b=>hsel i oi cs b hi) (fun cs b=>hsel j oj cs b hoj) hQ hy h1
   have hfree':∀k ok,ops[k]? =some ok→k≠i→(listed.setIfInBounds j true).getD k true=false→
    (∀e∈ok.after,Region.binds md e=true→e.on≠i)→oi.apart ops ok=true:=fun k ok hk hki hun hno=>by
    refine hfree k ok hk hki ?_ hno
    by_cases hjk:j=k
    ·subst hjk;exact hjun
    ·rw[getD_set_ne true hjk]at hun;exact hun
   have hkk:((listed.setIfInBounds i true).setIfInBounds j true).getD k false=(listed.setIfInBounds j true).getD k false:=by
    rw[Qk2 _ _ (Ne.symm hji),q1d (Ne.symm hki)]
   refine wpOp_mono (fun a' w' h3=>⟨fun h0=>h3.2.1 (hkk.trans h0),ih (listed.setIfInBounds j true) a' w' hfree' (ready_mono hr (Ne.symm hji)) h3.1 (fun h0=>h3.2.1 (hkk.trans h0)) ?_⟩) h2
   rw[Qk2 _ _ hji]
   exact h3.2.2
theorem q0k {i:Nat} {oi:Oper} {v:Value} {fuel:Nat} {listed:Array Bool} {a:Act} {w:World} (hi:ops[i]? =some oi)
 (hs:Region.noSelect ops=true) (hf:Region.free md ops listed i=true) (hr:(Region.ready md ops listed).contains i=true)
 (hki:Nat.beq k i=false) (hQ:∀c a w,Q (.panic c) (a.put oi.dst v) w→Q (.panic c) a w) (hy:YieldsIf P ops (fun _=>True) oi v a) (hS:listed.getD k false=false→S w)
 (h:q5b P md ops Q k S fuel (listed.setIfInBounds i true) (a.put oi.dst v) w):q5b P md ops Q k S (fuel+1) listed a w:=
 j3y hi (Region.noSelect_spec hs) hQ (fun e=>by rw[e]at hki;simp at hki) fuel listed a w (Region.free_spec hi hf) (by simpa using hr) hy hS h
def q0i (P:Program) (md:Region.Mode) (ops:Array Oper) (Q:Exit→Act→World→Prop) (k:Nat) (S:World→Prop) (fuel:Nat) (listed:Array Bool) (a:Act) (w:World) (rs:List Nat):Prop:=
 ∀i∈rs,wpOp P ops Q i (fun a' w'=>((listed.setIfInBounds i true).getD k false=false→S w')∧q5b P md ops Q k S fuel (listed.setIfInBounds i true) a' w') a w
theorem q0i.nil {fuel:Nat} {listed:Array Bool} {a:Act} {w:World}:q0i P md ops Q k S fuel listed a w []:=fun _ h=>by cases h
theorem q0i.cons {fuel:Nat} {listed:Array Bool} {a:Act} {w:World} {i:Nat} {o:Oper} {rs:List Nat} (ho:ops[i]? =some o)
 (h:∀K':Act→World→Prop,Shut (∀a w,S w→(S w→q5b P md ops Q k S fuel (listed.setIfInBounds i true) a w)→K' a w)→if Region.wanted o (yielded ops a.tmps)=true then Oper.wp P o a w K' Q else K' (a.put o.dst undef) w)
 (hs:q0i P md ops Q k S fuel listed a w rs):q0i P md ops Q k S fuel listed a w (i::rs):=fun j hj=>by
 rcases List.mem_cons.1 hj with rfl|hj
 ·exact wpOp_step ho (fun K' hK=>h K' (fun a w hS hW=>hK a w ⟨fun _=>hS,hW hS⟩))
 ·exact hs j hj
theorem q0i.late {fuel:Nat} {listed:Array Bool} {a:Act} {w:World} {i:Nat} {o:Oper} {rs:List Nat} (ho:ops[i]? =some o) (hk:(listed.setIfInBounds i true).getD k false=true)
 (h:∀K':Act→World→Prop,Shut (∀a w,q5b P md ops Q k S fuel (listed.setIfInBounds i true) a w→K' a w)→if Region.wanted o (yielded ops a.tmps)=true then Oper.wp P o a w K' Q else K' (a.put o.dst undef) w)
 (hs:q0i P md ops Q k S fuel listed a w rs):q0i P md ops Q k S fuel listed a w (i::rs):=fun j hj=>by
 rcases List.mem_cons.1 hj with rfl|hj
 ·exact wpOp_step ho (fun K' hK=>h K' (fun a w hW=>hK a w ⟨fun h0=>(by rw[hk]at h0;cases h0),hW⟩))
 ·exact hs j hj
theorem q1b {rs:List Nat} {fuel:Nat} {listed:Array Bool} {a:Act} {w:World} (hr:Region.ready md ops listed=rs) (hne:rs≠[])
 (h:q0i P md ops Q k S fuel listed a w rs):q5b P md ops Q k S (fuel+1) listed a w:=⟨fun h0=>absurd (hr▸h0) hne,hr▸h⟩
theorem z1m {listed:Array Bool} {a:Act} {w:World} (hr:Region.ready md ops listed=[]) (h:Q .normal a w):
 ∀fuel,q5b P md ops Q k S fuel listed a w
 |0=>⟨hr,h⟩
 |_+1=>⟨fun _=>h,by rw[hr];simp⟩
theorem y6v {id:Nat} {a:Act} {w:World} (hm:P.follows .mixedOrders=true)
 (h:q5b P .any ops Q k S ops.size (Array.replicate ops.size false) a w.drew):(Code.region id ops true).wp P Q a w:=
 wp_region_any hm (j2m _ _ _ _ h)
end
end Go.Proofs.YteikjpbbhopkaaaGreatDoor
