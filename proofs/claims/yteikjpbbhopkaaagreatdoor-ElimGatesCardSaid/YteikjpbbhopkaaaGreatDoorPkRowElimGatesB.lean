/-Lemmas and contracts for the row. -/
import Derived.Test.YteikjpbbhopkaaaGreatDoorPkRowElimGatesQQ
import Derived.WalkSpells
import Derived.Deep.Draws
set_option linter.unusedVariables false
set_option linter.unusedSimpArgs false
set_option linter.unnecessarySimpa false
namespace Go.Proofs.YteikjpbbhopkaaaGreatDoor
open Go.RowKit
abbrev I64 (x:Int):Value:=.int .i64 x
theorem add_add (a:Addr) (i j:Nat):(a.add i).add j=a.add (i+j):=by
 unfold Addr.add
 by_cases hi:i=0<;>by_cases hj:j=0<;>simp[hi,hj,Qg5]
theorem q5c (b o i:Nat):(⟨b,o,none⟩:Addr).add i=⟨b,o+i,none⟩:=by
 unfold Addr.add;split<;>simp_all
structure Kp (M:Nat→Prop) (w w':World):Prop where
 os:w'.os=w.os
 tape:w'.tape=w.tape
 output:w'.output=w.output
 size:w.heap.size≤w'.heap.size
 block:∀k,k<w.heap.size→¬M k→w'.heap[k]? =w.heap[k]?
section
variable {M M':Nat→Prop} {w w' w'':World}
theorem Kp.refl (M:Nat→Prop) (w:World):Kp M w w:=⟨rfl,rfl,rfl,Qb8 _,fun _ _ _=>rfl⟩
theorem Kp.trans (h:Kp M w w') (h':Kp M' w' w'') (hm:∀k,k<w.heap.size→M' k→M k):Kp M w w'':=
 ⟨h'.os.trans h.os,h'.tape.trans h.tape,h'.output.trans h.output,Qc0 h.size h'.size,
  fun k hk hn=>(h'.block k (Qc2 hk h.size) (fun hq=>hn (hm k hk hq))).trans (h.block k hk hn)⟩
theorem Kp.mono (h:Kp M w w') (hm:∀k,k<w.heap.size→M k→M' k):Kp M' w w':=
 ⟨h.os,h.tape,h.output,h.size,fun k hk hn=>h.block k hk (fun hq=>hn (hm k hk hq))⟩
theorem Kp.drewN (h:Kp M w w') (n:Nat):Kp M w (w'.drewN n):=⟨h.os,h.tape,h.output,h.size,h.block⟩
theorem Kp.drew (h:Kp M w w'):Kp M w w'.drew:=⟨h.os,h.tape,h.output,h.size,h.block⟩
theorem Kp.alloc (h:Kp M w w') (o:Obj):Kp M w (w'.alloc o):=
 ⟨h.os,h.tape,h.output,Qc0 h.size (by simp),fun k hk hn=>(Below.heap_alloc w' o k (Qc2 hk h.size)).trans (h.block k hk hn)⟩
theorem Kp.setCell (h:Kp M w w') {p:Addr} (hp:p.block<w.heap.size→M p.block) (u:Value):Kp M w (w'.setCell p u):=
 ⟨h.os,h.tape,h.output,by simpa[World.setCell]using h.size,fun k hk hn=>(Below.heap_setCell w' p u k (by
  rintro rfl;exact hn (hp hk))).trans (h.block k hk hn)⟩
theorem Kp.grown {row:Option Nat} (h:Kp M w w') (hg:w'.grownBy w'' row) (hr:∀g,row=some g→g<w.heap.size→M g):Kp M w w'':=
 ⟨hg.os.trans h.os,hg.tape.trans h.tape,hg.output.trans h.output,Qc0 h.size hg.size,
  fun k hk hn=>(hg.block k (Qc2 hk h.size) (fun e=>hn (hr k e.symm hk))).trans (h.block k hk hn)⟩
theorem Kp.below {B:Nat} (h:Kp M w w') (hm:∀k,k<B→k<w.heap.size→¬M k) (hB:B≤w.heap.size):Below B w w':=
 ⟨h.os,h.tape,h.output,h.size,fun k hk=>h.block k (Qc2 hk hB) (hm k hk (Qc2 hk hB))⟩
theorem Kp.of_below {B:Nat} (h:Below B w w'):Kp (fun k=>B≤k) w w':=
 ⟨h.os,h.tape,h.output,h.size,fun k _ hn=>h.block k (by omega)⟩
theorem Kp.of_grown {row:Option Nat} (h:w.grownBy w' row):Kp (fun k=>some k=row) w w':=⟨h.os,h.tape,h.output,h.size,fun k hk hn=>h.block k hk hn⟩
theorem Kp.none_below (h:Kp (fun _=>False) w w'):Below w.heap.size w w':=h.below (fun _ _ _ h=>h) (Qb8 _)
theorem Kp.cell (h:Kp M w w') {p:Addr} (hp:p.block<w.heap.size) (hn:¬M p.block):w'.cell? p=w.cell? p:=World.cell?_of_block (h.block p.block hp hn)
end
def Rd {α:Type} (enc:α→Value) (D:Nat→Prop) (w:World) (A:Option Addr) (xs:List α):Prop:=
 0<xs.length→∃b off,A=some ⟨b,off,none⟩∧D b∧∀j (h:j<xs.length),w.cell? ⟨b,off+j,none⟩=some (enc xs[j])
section
variable {α:Type} {enc:α→Value} {D D':Nat→Prop} {w w':World} {A:Option Addr} {xs:List α}
theorem Rd.keep (h:Rd enc D w A xs) (hk:∀b,D b→w'.heap[b]? =w.heap[b]?) (hd:∀b,D b→D' b):Rd enc D' w' A xs:=fun hn=>by
 obtain⟨b,off,e,hb,hc⟩:=h hn
 exact⟨b,off,e,hd _ hb,fun j hj=>(World.cell?_of_block (hk _ hb)).trans (hc j hj)⟩
theorem Rd.mono (h:Rd enc D w A xs) (hd:∀b,D b→D' b):Rd enc D' w A xs:=h.keep (fun _ _=>rfl) hd
theorem Rd.below {B:Nat} (h:Rd enc (· <B) w A xs) (hb:Below B w w'):Rd enc (· <B) w' A xs:=h.keep (fun b hlt=>hb.block b hlt) (fun _ h=>h)
theorem Rd.at_ (h:Rd enc D w A xs) {k:Nat} (hk:k<xs.length):∃b off,A=some ⟨b,off,none⟩∧D b∧w.cell? ⟨b,off+k,none⟩=some (enc xs[k]):=by
 obtain⟨b,off,e,hb,hc⟩:=h (by omega)
 exact⟨b,off,e,hb,hc k hk⟩
end
def RdL (D:Nat→Prop) (w:World) (A:Option Addr) (xss:List (List Int)):Prop:=
 0<xss.length→∃b off,A=some ⟨b,off,none⟩∧D b∧∀j (h:j<xss.length),∃A' c',w.cell? ⟨b,off+j,none⟩=some (.slice A' xss[j].length c')∧xss[j].length≤c'∧Rd I64 D w A' xss[j]
section
variable {D D':Nat→Prop} {w w':World} {A:Option Addr} {xss:List (List Int)}
end
def v1x (e:TypeId) (n:Nat) (mk:Nat×Nat):Prop:=mk=(0,0)∨(e=5∧n≤mk.1)
def q4o (w:World) (g:Nat) (e:TypeId) (cur:Array Value):Prop:=∃mk,w.heap[g]? =some (.cells cur e mk)∧v1x e cur.size mk
section
variable {w w':World} {g i o:Nat} {e:TypeId} {cur cs:Array Value}
theorem q4o.mk0 (h:w.heap[g]? =some (.cells cur e (0,0))):q4o w g e cur:=⟨_,h,.inl rfl⟩
theorem q4o.cell (h:q4o w g e cur) (i:Nat):w.cell? ⟨g,i,none⟩=cur[i]? :=by obtain⟨mk,h,_⟩:=h;exact cell_of_row w g i cur e mk h
theorem q4o.frozen (h:q4o w g e cur) (hi:i<cur.size):w.frozen? ⟨g,i,none⟩=false:=by
 obtain⟨mk,h,hk⟩:=h
 unfold World.frozen?
 rw[h]
 rcases hk with rfl|⟨_,h2⟩
 ·simp
 ·have:¬mk.1≤i:=by omega
  simp[this]
theorem q4o.keep (h:q4o w g e cur) (hk:w'.heap[g]? =w.heap[g]?):q4o w' g e cur:=by obtain⟨mk,h,hm⟩:=h;exact⟨mk,hk.trans h,hm⟩
theorem q4o.lt (h:q4o w g e cur):g<w.heap.size:=by obtain⟨mk,h,_⟩:=h;exact(Array.getElem?_eq_some_iff.1 h).1
theorem q4o.plain (h:q4o w g e cur) (he:e≠5):w.heap[g]? =some (.cells cur e (0,0)):=by
 obtain⟨mk,h,hm⟩:=h
 rcases hm with rfl|⟨h2,_⟩
 ·exact h
 ·exact absurd h2 he
theorem q4o.setRow (h:q4o w g e cur) (hs:cs.size=cur.size):q4o (w.setRow g cs) g e cs:=by
 obtain⟨mk,h,hm⟩:=h
 exact⟨mk,setRow_heap w g cur cs e mk h,by unfold v1x at hm⊢;rw[hs];exact hm⟩
theorem q4o.setCell (h:q4o w g e cur) (i:Nat) (u:Value):q4o (w.setCell ⟨g,i,none⟩ u) g e (cur.setIfInBounds i u):=by
 have hr:=h.setRow (cs:=cur.setIfInBounds i u) (by simp)
 obtain⟨mk,h,hm⟩:=h
 rwa [setCell_eq_setRow w g i cur e mk u h]
theorem q4o.store:∀(vs:List Value) (o:Nat) (cur:Array Value) (w:World),q4o w g e cur→o+vs.length≤cur.size→
 w.setCells g o vs=w.setRow g (cur.toList.take o++vs++cur.toList.drop (o+vs.length)).toArray
 |[],o,cur,w,h,_=>by
  obtain⟨mk,h,_⟩:=h
  simp only[World.setCells,Qf5,Qb5,Qd9,Qi0,Array.toArray_toList]
  rw[setRow_self w g cur e mk h]
 |v::r,o,cur,w,h,hl=>by
  have h2:=h.setRow (cs:=cur.setIfInBounds o v) (by simp)
  have ih:=q4o.store r (o+1) _ _ h2 (by simp at hl⊢;omega)
  obtain⟨mk,h,_⟩:=h
  rw[World.setCells,setCell_eq_setRow w g o cur e mk v h,ih,setRow_setRow]
  congr 2
  have e:=list_seg_step cur.toList o v r (by simp at hl⊢;omega)
  simpa[Array.toList_setIfInBounds,Qg5]using e
end
def Own (w:World) (e:TypeId) (v:Value) (xs:List Value):Prop:=
 (v=.slice none 0 0∧xs=[])∨∃g off cap cur,v=.slice (some ⟨g,off,none⟩) xs.length cap∧q4o w g e cur∧xs.length≤cap∧cap≤maxLen∧
  off+cap≤cur.size∧∀j (h:j<xs.length),cur[off+j]? =some xs[j]
section
variable {w w':World} {e:TypeId} {v:Value} {xs:List Value}
theorem Own.nil (w:World) (e:TypeId):Own w e (.slice none 0 0) []:=.inl ⟨rfl,rfl⟩
theorem Own.keep (h:Own w e v xs) (hk:∀g,v.ownBlock=some g→w'.heap[g]? =w.heap[g]?):Own w' e v xs:=by
 rcases h with h|⟨g,off,cap,cur,rfl,hg,h1,h2,h3,h4⟩
 ·exact .inl h
 ·exact .inr ⟨g,off,cap,cur,rfl,hg.keep (hk g (by simp[Value.ownBlock])),h1,h2,h3,h4⟩
theorem Own.lt (h:Own w e v xs) {g:Nat} (hg:v.ownBlock=some g):g<w.heap.size:=by
 rcases h with⟨rfl,_⟩|⟨g',off,cap,cur,rfl,hh,_⟩
 ·simp[Value.ownBlock]at hg
 ·have:g'=g:=by simpa[Value.ownBlock]using hg
  subst this
  exact hh.lt
theorem Own.type (h:Own w e v xs) {g:Nat} (hg:v.ownBlock=some g):∃cur,q4o w g e cur:=by
 rcases h with⟨rfl,_⟩|⟨g',off,cap,cur,rfl,hh,_⟩
 ·simp[Value.ownBlock]at hg
 ·have:g'=g:=by simpa[Value.ownBlock]using hg
  subst this
  exact⟨cur,hh⟩
theorem Own.form (h:Own w e v xs):∃A cap,v=.slice A xs.length cap∧xs.length≤cap:=by
 rcases h with⟨rfl,rfl⟩|⟨g,off,cap,cur,rfl,_,h1,_⟩
 ·exact⟨none,0,rfl,Qb8 _⟩
 ·exact⟨_,cap,rfl,h1⟩
theorem Own.grown (h : Own w e v xs) {row : Option Nat} (hg : w.grownBy w' row) (hne : v.ownBlock = none ∨ v.ownBlock ≠ row) : Own w' e v xs :=
  h.keep fun g hgo => hg.block g (h.lt hgo) (by rw [← hgo]; rcases hne with h | h; · rw [hgo] at h; cases h
                                                · exact h)
theorem Own.alloc (h:Own w e v xs) (o:Obj):Own (w.alloc o) e v xs:=h.keep fun g hg=>Below.heap_alloc w o g (h.lt hg)
theorem Own.drew (h:Own w e v xs):Own w.drew e v xs:=h
theorem Own.drewN (h:Own w e v xs) (n:Nat):Own (w.drewN n) e v xs:=h
theorem Own.of_row {base n:Nat} (h:w.ownsRow base e 1 v n xs):Own w e v xs:=by
 obtain⟨hl,h⟩:=h
 simp only[Qf6]at hl h
 subst hl
 rcases h with⟨rfl,h0⟩|⟨g,cap,cur,rfl,_,hg,h1,h2,h3,h4⟩
 ·exact .inl ⟨rfl,Qc8 h0⟩
 ·refine .inr ⟨g,0,cap,cur,rfl,.mk0 hg,h1,h2,by omega,fun j hj=>?_⟩
  have:xs[j]=(cur.toList.take xs.length)[j]'(by rw[h4];exact hj):=by simp only[h4]
  rw[this,Qm0,Qg7]
  simp
theorem Own.cell (h:Own w e v xs):∃A cap,v=.slice A xs.length cap∧xs.length≤cap∧∀j (hj:j<xs.length),∃b off,A=some ⟨b,off,none⟩∧v.ownBlock=some b∧w.cell? ⟨b,off+j,none⟩=some xs[j]:=by
 rcases h with⟨rfl,rfl⟩|⟨g,off,cap,cur,rfl,hg,h1,_,_,h4⟩
 ·exact⟨none,0,rfl,Qb8 _,fun j hj=>by simp at hj⟩
 ·refine⟨_,cap,rfl,h1,fun j hj=>⟨_,_,rfl,rfl,?_⟩⟩
  rw[hg.cell (off+j)]
  exact h4 j hj
theorem Own.rd {α:Type} {enc:α→Value} {ys:List α} (h:Own w e v (ys.map enc)):∃A cap,v=.slice A ys.length cap∧ys.length≤cap∧Rd enc (fun b=>v.ownBlock=some b) w A ys:=by
 obtain⟨A,cap,h1,h2,h3⟩:=h.cell
 simp only[Qa9]at h1 h2 h3
 refine⟨A,cap,h1,h2,fun hn=>?_⟩
 obtain⟨b,off,e1,hb,_⟩:=h3 0 hn
 refine⟨b,off,e1,hb,fun j hj=>?_⟩
 obtain⟨b',off',e2,_,hc⟩:=h3 j hj
 rw[e1]at e2
 cases e2
 rw[Qg3]at hc
 exact hc
end
section
variable {P:Program} (w:World)
theorem q6e (t ty e:TypeId) (i:TypeInfo) (z:Value) (bytes:Nat) (ht:P.underlying t=some (.slice e)) (hi:P.info? e=some i) (hz:i.zero=some z)
 (hsize:i.size=1) (hby:i.bytes=bytes) (hzs:z.cells.size=1)
 (v:Value) (xs:List Value) (hown:Own w e v xs)
 (a:Addr) (m c:Nat) (news:List Value) (hl:news.length=m) (hnews:∀j u,news[j]? =some u→w.cell? (a.add j)=some u) (h1:∀u∈news,u.oneCell'=true)
 (h63:xs.length+m≤maxLen) (hbytes:(xs.length+m)*bytes≤140737488355328):
 ∃v' w',(Builtin.append_ #[t,t] ty #[v,.slice (some a) m c]).run P w=.ok v' w'∧Own w' e v' (xs++news)∧w.grownBy w' v.ownBlock∧
  (v'.ownBlock=v.ownBlock∨v'.ownBlock=some w.heap.size)∧(v'=.slice none 0 0↔v=.slice none 0 0∧m=0):=by
 rcases hown with⟨rfl,rfl⟩|⟨g,off,cap,cur,rfl,hg,hnc,hcm,hfit,hcs⟩
 ·obtain⟨v',w',hr,h2,h3,h4⟩:=run_append_own (P:=P) w w.heap.size t ty e i z 1 bytes ht hi hz hsize hby hzs (by omega) (.slice none 0 0) 0 [] (World.ownsRow_nil w _ e 1) a m c news (by omega) hnews h1
   (by simpa using h63) (by simpa using hbytes) (Qb8 _)
  refine⟨v',w',hr,Own.of_row h2,h3,?_,h4⟩
  rcases h2.2 with⟨rfl,_⟩|⟨g',cap',cur',rfl,hb,hg',_⟩
  ·exact .inl rfl
  ·by_cases hm:m=0
   ·have:=h4.2 ⟨rfl,hm⟩
    simp at this
   ·right
    have hsz:∀k,w.heap.size+1≤k→w'.heap[k]? =none:=by
     intro k hk
     have hr2:=hr
     have hru:=run_append_nil (P:=P) w t ty e i z ht hi hz a m c news (by rw[hl,hsize];omega) hnews (by omega) (by simp only[maxLen]at h63;omega) (by rw[hby];simp at hbytes;omega)
     rw[hru]at hr2
     injection hr2 with _ hw
     rw[←hw]
     simp
     omega
    have:g'<w.heap.size+1:=by
     rcases Qi7 g' (w.heap.size+1)with h|h
     ·exact h
     ·rw[hsz g' h]at hg';cases hg'
    simp[Value.ownBlock]
    omega
 ·have holds:∀j u,xs[j]? =some u→w.cell? ⟨g,off+j,none⟩=some u:=by
   intro j u hu
   obtain⟨hj,rfl⟩:=List.getElem?_eq_some_iff.1 hu
   rw[hg.cell (off+j)]
   exact hcs j hj
  by_cases hroom:xs.length+m≤cap
  ·have hcell:∀j,j<news.length→(w.cell? ⟨g,off+xs.length*i.size+j,none⟩).isSome=true:=fun j hj=>by
    rw[hg.cell,hsize,Qg9 (by omega)];rfl
   have hfz:∀j,j<news.length→w.frozen? ⟨g,off+xs.length*i.size+j,none⟩=false:=fun j hj=>hg.frozen (by rw[hsize];omega)
   have hr:=run_append_room_cells (P:=P) w t ty e i ht hi g off xs.length cap a m c news (by rw[hl,hsize];omega) hnews h1 hroom hcell hfz
   refine⟨_,_,hr,?_,?_,.inl rfl,by simp⟩
   ·refine .inr ⟨g,off,cap,(cur.toList.take (off+xs.length)++news++cur.toList.drop (off+xs.length+news.length)).toArray,by simp[hl],?_,by simp[hl];omega,hcm,by simp;omega,fun j hj=>?_⟩
    ·rw[hsize,Qf6,q4o.store news (off+xs.length) cur w hg (by omega)]
     exact hg.setRow (by simp;omega)
    ·simp only[Qa3]at hj
     simp only[Qa5]
     rw[Qc4,Qm4]
     by_cases hjx:j<xs.length
     ·rw[if_pos (by simp;omega),Qn2,if_pos (by omega)]
      rw[Qi2 hjx,←hcs j hjx]
      simp
     ·rw[if_neg (by simp;omega),Qe3 (by simp;omega),Qh9 (by omega)]
      have:off+j-(cur.toList.take (off+xs.length)).length=j-xs.length:=by simp;omega
      rw[this,Qa0 (by omega)]
   ·rw[hsize,Qf6,q4o.store news (off+xs.length) cur w hg (by omega)]
    exact⟨rfl,rfl,rfl,by simp,fun k _ hk=>setRow_other w g k _ (fun e=>hk (by simp[Value.ownBlock,e]))⟩
  ·obtain⟨v',w',hr,h2,h3⟩:=run_append_arg_grows (P:=P) w t ty e i z 1 bytes ht hi hz hsize hby hzs (by omega) ⟨g,off,none⟩ xs.length cap xs (by omega) (fun j u hu=>by rw[q5c];exact holds j u hu) a m c news (by omega) hnews (by omega) h63 hbytes
   refine⟨v',w',hr,Own.of_row h2,⟨h3.os,h3.tape,h3.output,h3.size,fun k hk _=>h3.block k hk (by simp)⟩,?_,?_⟩
   ·right
    have hru:=run_append_grow (P:=P) w t ty e i z ht hi hz ⟨g,off,none⟩ xs.length cap xs (by rw[hsize];omega) (fun j u hu=>by rw[q5c];exact holds j u hu) a m c news (by rw[hl,hsize];omega) hnews (by omega) (by simp only[maxLen]at h63;omega) (growslice_fits (by omega) (by rw[hby];exact hbytes))
    rw[hru]at hr
    injection hr with hv _
    rw[←hv]
    rfl
   ·rcases h2.2 with⟨rfl,h0⟩|⟨g',cap',cur',rfl,_⟩
    ·omega
    ·simp
end
theorem x6b {P:Program} (w:World) {o:Oper} {a:Act} {K:Act→World→Prop} {Q:Exit→Act→World→Prop} (s x:Operand) (t:TypeId)
 (ho:o.op=.call {callee:=.builtin .append,args:= #[s,x],argTypes:= #[t,t]})
 (e:TypeId) (i:TypeInfo) (z:Value) (bytes:Nat) (ht:P.underlying t=some (.slice e)) (hi:P.info? e=some i) (hz:i.zero=some z)
 (hsize:i.size=1) (hby:i.bytes=bytes) (hzs:z.cells.size=1)
 (v:Value) (xs:List Value) (n:Nat) (hlen:xs.length=n) (hs:a.eval s=v) (hown:Own w e v xs)
 (ad:Addr) (c:Nat) (u:Value) (hx:a.eval x=.slice (some ad) 1 c) (hc:w.cell? ad=some u) (h1:u.oneCell'=true)
 (h63:n+1≤maxLen) (hbytes:(n+1)*bytes≤140737488355328)
 (h:∀g off cap w',Own w' e (.slice (some ⟨g,off,none⟩) (n+1) cap) (xs++[u])→w.grownBy w' v.ownBlock→(v.ownBlock=some g∨g=w.heap.size)→K (a.put o.dst (.slice (some ⟨g,off,none⟩) (n+1) cap)) w'):o.wp P a w K Q:=by
 subst hlen
 obtain⟨v',w',hr,h2,h3,h4,h5⟩:=q6e (P:=P) w t o.type e i z bytes ht hi hz hsize hby hzs v xs hown ad 1 c [u] rfl
  (fun j y hy=>by
   rcases j with _|j
   ·simp at hy;subst hy;simpa[Addr.add]using hc
   ·simp at hy) (by simpa using h1) h63 hbytes
 have hform:∃g off cap,v'=.slice (some ⟨g,off,none⟩) (xs.length+1) cap:=by
  rcases h2 with⟨rfl,h0⟩|⟨g,off,cap,cur,rfl,_⟩
  ·simp at h0
  ·exact⟨g,off,cap,by simp⟩
 obtain⟨g,off,cap,rfl⟩:=hform
 unfold Oper.wp execOp
 simp only[ho,resolve,invoke,builtin,Sem.run_bind,Sem.run_pure,Result.andThen_ok,Qr1,Qc6,Qj9,hs,hx,hr]
 exact h g off cap w' h2 h3 (by
  rcases h4 with h4|h4
  ·left;rw[←h4];rfl
  ·right;simpa[Value.ownBlock]using h4)
theorem q3t {P:Program} (w:World) {ops:Array Oper} {rest:List Oper} {o:Oper} {a:Act} {Q:Exit→Act→World→Prop} (hgd:o.guard=none) (s x:Operand) (t:TypeId)
 (ho:o.op=.call {callee:=.builtin .append,args:= #[s,x],argTypes:= #[t,t]})
 (e:TypeId) (i:TypeInfo) (z:Value) (bytes:Nat) (ht:P.underlying t=some (.slice e)) (hi:P.info? e=some i) (hz:i.zero=some z)
 (hsize:i.size=1) (hby:i.bytes=bytes) (hzs:z.cells.size=1)
 (v:Value) (xs:List Value) (n:Nat) (hlen:xs.length=n) (hs:a.eval s=v) (hown:Own w e v xs)
 (ad:Addr) (c:Nat) (u:Value) (hx:a.eval x=.slice (some ad) 1 c) (hc:w.cell? ad=some u) (h1:u.oneCell'=true)
 (h63:n+1≤maxLen) (hbytes:(n+1)*bytes≤140737488355328)
 (h:∀g off cap w',Own w' e (.slice (some ⟨g,off,none⟩) (n+1) cap) (xs++[u])→w.grownBy w' v.ownBlock→(v.ownBlock=some g∨g=w.heap.size)→wpList P ops Q rest (a.put o.dst (.slice (some ⟨g,off,none⟩) (n+1) cap)) w'):
 wpList P ops Q (o::rest) a w:=
 wpList_plain hgd fun _ hK=>x6b w s x t ho e i z bytes ht hi hz hsize hby hzs v xs n hlen hs hown ad c u hx hc h1 h63 hbytes fun g off cap w' h2 h3 h4=>hK _ _ (h g off cap w' h2 h3 h4)
theorem q4g {P:Program} (w:World) {ops:Array Oper} {o:Oper} {a:Act} {K:Act→World→Prop} {Q:Exit→Act→World→Prop} {E:Prop} (hgd:o.guard=none) (s x:Operand) (t:TypeId)
 (ho:o.op=.call {callee:=.builtin .append,args:= #[s,x],argTypes:= #[t,t]})
 (e:TypeId) (i:TypeInfo) (z:Value) (bytes:Nat) (ht:P.underlying t=some (.slice e)) (hi:P.info? e=some i) (hz:i.zero=some z)
 (hsize:i.size=1) (hby:i.bytes=bytes) (hzs:z.cells.size=1)
 (v:Value) (xs:List Value) (n:Nat) (hlen:xs.length=n) (hs:a.eval s=v) (hown:Own w e v xs)
 (ad:Addr) (c:Nat) (u:Value) (hx:a.eval x=.slice (some ad) 1 c) (hc:w.cell? ad=some u) (h1:u.oneCell'=true)
 (h63:n+1≤maxLen) (hbytes:(n+1)*bytes≤140737488355328)
 (h:∀g off cap w',Own w' e (.slice (some ⟨g,off,none⟩) (n+1) cap) (xs++[u])→w.grownBy w' v.ownBlock→(v.ownBlock=some g∨g=w.heap.size)→K (a.put o.dst (.slice (some ⟨g,off,none⟩) (n+1) cap)) w'):
 if Region.wanted o (yielded ops a.tmps)=true then Oper.wp P o a w K Q else E:=by
 rw[if_pos (by simp[Region.wanted,hgd])]
 exact x6b w s x t ho e i z bytes ht hi hz hsize hby hzs v xs n hlen hs hown ad c u hx hc h1 h63 hbytes h
def Blk (w:World) (g:Nat) (t:TypeId) (cs:Array Value):Prop:=w.heap[g]? =some (.cells cs t (0,0))
section
variable {w w':World} {g:Nat} {t:TypeId} {cs:Array Value}
theorem Blk.lt (h:Blk w g t cs):g<w.heap.size:=(Array.getElem?_eq_some_iff.1 h).1
theorem Blk.cell (h:Blk w g t cs) (i:Nat):w.cell? ⟨g,i,none⟩=cs[i]? :=cell_of_row w g i cs t (0,0) h
theorem Blk.frozen (h:Blk w g t cs) (i:Nat):w.frozen? ⟨g,i,none⟩=false:=by unfold Blk at h;simp[World.frozen?,h]
theorem Blk.new (w:World) (t:TypeId) (cs:Array Value):Blk (w.alloc (.cells cs t)) w.heap.size t cs:=heap_alloc_new w _
theorem Blk.drew (h:Blk w g t cs):Blk w.drew g t cs:=h
theorem Blk.drewN (h:Blk w g t cs) (n:Nat):Blk (w.drewN n) g t cs:=h
theorem Blk.alloc (h:Blk w g t cs) (o:Obj):Blk (w.alloc o) g t cs:=(Below.heap_alloc w o g h.lt).trans h
theorem Blk.set_ (h:Blk w g t cs) (i:Nat) (u:Value):Blk (w.setCell ⟨g,i,none⟩ u) g t (cs.setIfInBounds i u):=by
 unfold Blk at h⊢
 simp[World.setCell,Ql5,h]
theorem Blk.far (h:Blk w g t cs) {p:Addr} (hp:g≠p.block) (u:Value):Blk (w.setCell p u) g t cs:=(Below.heap_setCell w p u g hp).trans h
theorem Blk.kp {M:Nat→Prop} (h:Blk w g t cs) (hk:Kp M w w') (hg:¬M g):Blk w' g t cs:=(hk.block g h.lt hg).trans h
theorem Blk.grown {row:Option Nat} (h:Blk w g t cs) (hb:w.grownBy w' row) (hg:some g≠row):Blk w' g t cs:=(hb.block g h.lt hg).trans h
theorem Blk.ne_ {g':Nat} {t':TypeId} {cs':Array Value} (h:Blk w g t cs) (h':Blk w g' t' cs') (hne:t≠t'):g≠g':=by
 rintro rfl
 unfold Blk at h h'
 rw[h]at h'
 injection h' with h'
 injection h' with _ ht
 exact hne ht
theorem Own.ne_blk {e:TypeId} {v:Value} {xs:List Value} (h:Own w e v xs) (hg:Blk w g t cs) (hne:e≠t):v.ownBlock≠some g:=fun he=>by
 obtain⟨cur,mk,hc,_⟩:=h.type he
 unfold Blk at hg
 rw[hc]at hg
 injection hg with hg
 injection hg with _ ht
 exact hne ht
end
theorem Own.far {w:World} {e:TypeId} {v:Value} {xs:List Value} (h:Own w e v xs) {p:Addr} (hp:v.ownBlock≠some p.block) (u:Value):Own (w.setCell p u) e v xs:=
 h.keep fun g hg=>Below.heap_setCell w p u g (fun he=>hp (by rw[hg,he]))
theorem Own.kp {M:Nat→Prop} {w w':World} {e:TypeId} {v:Value} {xs:List Value} (h:Own w e v xs) (hk:Kp M w w') (hm:∀g,v.ownBlock=some g→¬M g):Own w' e v xs:=
 h.keep fun g hg=>hk.block g (h.lt hg) (hm g hg)
theorem j2c {P:Program} (w:World) {o:Oper} {a:Act} {K:Act→World→Prop} {Q:Exit→Act→World→Prop} (s x:Operand) (t:TypeId)
 (ho:o.op=.call {callee:=.builtin .append,args:= #[s,x],argTypes:= #[t,t]})
 (e:TypeId) (i:TypeInfo) (z:Value) (bytes:Nat) (ht:P.underlying t=some (.slice e)) (hi:P.info? e=some i) (hz:i.zero=some z)
 (hsize:i.size=1) (hby:i.bytes=bytes) (hzs:z.cells.size=1)
 (v:Value) (xs:List Value) (hs:a.eval s=v) (hown:Own w e v xs)
 (ad:Addr) (c:Nat) (news:List Value) (hx:a.eval x=.slice (some ad) news.length c) (hc:∀j u,news[j]? =some u→w.cell? (ad.add j)=some u) (h1:∀u∈news,u.oneCell'=true)
 (h63:xs.length+news.length≤maxLen) (hbytes:(xs.length+news.length)*bytes≤140737488355328)
 (h:∀A cap w',Own w' e (.slice A (xs.length+news.length) cap) (xs++news)→w.grownBy w' v.ownBlock→(∀g,(Value.slice A (xs.length+news.length) cap).ownBlock=some g→v.ownBlock=some g∨g=w.heap.size)→
  K (a.put o.dst (.slice A (xs.length+news.length) cap)) w'):o.wp P a w K Q:=by
 obtain⟨v',w',hr,h2,h3,h4,h5⟩:=q6e (P:=P) w t o.type e i z bytes ht hi hz hsize hby hzs v xs hown ad _ c news rfl hc h1 h63 hbytes
 obtain⟨A,cap,hform,_⟩:=h2.form
 rw[Qa3]at hform
 subst hform
 unfold Oper.wp execOp
 simp only[ho,resolve,invoke,builtin,Sem.run_bind,Sem.run_pure,Result.andThen_ok,Qr1,Qc6,Qj9,hs,hx,hr]
 exact h A cap w' h2 h3 (fun g hg=>by
  rcases h4 with h4|h4
  ·left;rw[←h4];exact hg
  ·right;rw[hg]at h4;injection h4)
theorem j0o {P:Program} (w:World) {ops:Array Oper} {rest:List Oper} {o:Oper} {a:Act} {Q:Exit→Act→World→Prop} (hgd:o.guard=none) (s x:Operand) (t:TypeId)
 (ho:o.op=.call {callee:=.builtin .append,args:= #[s,x],argTypes:= #[t,t]})
 (e:TypeId) (i:TypeInfo) (z:Value) (bytes:Nat) (ht:P.underlying t=some (.slice e)) (hi:P.info? e=some i) (hz:i.zero=some z)
 (hsize:i.size=1) (hby:i.bytes=bytes) (hzs:z.cells.size=1)
 (v:Value) (xs:List Value) (hs:a.eval s=v) (hown:Own w e v xs)
 (ad:Addr) (c:Nat) (news:List Value) (hx:a.eval x=.slice (some ad) news.length c) (hc:∀j u,news[j]? =some u→w.cell? (ad.add j)=some u) (h1:∀u∈news,u.oneCell'=true)
 (h63:xs.length+news.length≤maxLen) (hbytes:(xs.length+news.length)*bytes≤140737488355328)
 (h:∀A cap w',Own w' e (.slice A (xs.length+news.length) cap) (xs++news)→w.grownBy w' v.ownBlock→(∀g,(Value.slice A (xs.length+news.length) cap).ownBlock=some g→v.ownBlock=some g∨g=w.heap.size)→
  wpList P ops Q rest (a.put o.dst (.slice A (xs.length+news.length) cap)) w'):wpList P ops Q (o::rest) a w:=
 wpList_plain hgd fun _ hK=>j2c w s x t ho e i z bytes ht hi hz hsize hby hzs v xs hs hown ad c news hx hc h1 h63 hbytes fun A cap w' h2 h3 h4=>hK _ _ (h A cap w' h2 h3 h4)
theorem Own.empty (w:World) (e:TypeId):Own (w.alloc (.cells #[] e)) e (.slice (some ⟨w.heap.size,0,none⟩) 0 0) []:=
 .inr ⟨w.heap.size,0,0,#[],rfl,.mk0 (heap_alloc_new w _),Qb8 _,Qc1 _,Qb8 _,fun j h=>by simp at h⟩
theorem Own.set_ {w:World} {e:TypeId} {g off n c i:Nat} {xs:List Value} (h:Own w e (.slice (some ⟨g,off,none⟩) n c) xs) (hi:i<xs.length) (u:Value):
 Own (w.setCell ⟨g,off+i,none⟩ u) e (.slice (some ⟨g,off,none⟩) n c) (xs.set i u):=by
 rcases h with⟨h,_⟩|⟨g',off',cap,cur,hv,hg,h1,h2,h3,h4⟩
 ·cases h
 ·injection hv with ha hn hc
  injection ha with ha
  injection ha with hb ho
  subst hb ho hc
  refine .inr ⟨g,off,c,cur.setIfInBounds (off+i) u,by rw[hn,Qb6],?_,by rw[Qb6];exact h1,h2,by simpa using h3,fun j hj=>?_⟩
  ·exact hg.setCell (off+i) u
  ·rw[Qb6]at hj
   rw[List.getElem_set,Qi5]
   by_cases hij:i=j
   ·subst hij
    rw[if_pos rfl,if_pos rfl,if_pos (by omega)]
   ·rw[if_neg (by omega),if_neg hij]
    exact h4 j hj
theorem Own.at_ {w:World} {e:TypeId} {g off n c i:Nat} {xs:List Value} (h:Own w e (.slice (some ⟨g,off,none⟩) n c) xs) (hi:i<xs.length):
 w.cell? ⟨g,off+i,none⟩=some xs[i]∧w.frozen? ⟨g,off+i,none⟩=false:=by
 rcases h with⟨h,_⟩|⟨g',off',cap,cur,hv,hg,h1,h2,h3,h4⟩
 ·cases h
 ·injection hv with ha hn hc
  injection ha with ha
  injection ha with hb ho
  subst hb ho hc
  exact⟨(hg.cell _).trans (h4 i hi),hg.frozen (by omega)⟩
theorem Own.addr {w:World} {e:TypeId} {A:Option Addr} {n c:Nat} {xs:List Value} (h:Own w e (.slice A n c) xs) (hn:0<n):∃g off,A=some ⟨g,off,none⟩:=by
 rcases h with⟨h,_⟩|⟨g',off',cap,cur,hv,_⟩
 ·injection h with _ h;omega
 ·injection hv with ha
  exact⟨g',off',ha⟩
theorem Own.len {w:World} {e:TypeId} {A:Option Addr} {n c:Nat} {xs:List Value} (h:Own w e (.slice A n c) xs):xs.length=n∧n≤c:=by
 obtain⟨A',c',hv,hc⟩:=h.form
 injection hv with _ h1 h2
 subst h1 h2
 exact⟨rfl,hc⟩
end Go.Proofs.YteikjpbbhopkaaaGreatDoor
namespace Go.Proofs.YteikjpbbhopkaaaGreatDoor.Cn
open Go
def q2q (x n:Int):Bool:=x !=0&&decide (-n≤x)&&decide (x≤n)
def z4l (a:List Bool) (x:Int):Bool:=q2q x 65536&&((decide (x.natAbs<a.length)&&a.getD x.natAbs false)==decide (0<x))
def holdsV (a:List Bool) (l:List Int):Bool:=l.any (z4l a)
def u7z (N:Int) (l:List Int):Bool:=l.any fun x=> !q2q x N
def q3x (N:Int) (cs:List (List Int)):Int:=if N<0∨65536<N then 1 else if cs.any (u7z N)=true then 1 else if 65536<cs.length then 2 else 0
def j2s (N:Int) (cs:List (List Int)) (a:List Bool):Bool:=(q3x N cs==0)&&cs.all (holdsV a)
def q5r {α:Type} (p:α→Bool):List α→Int
 |[]=> -1
 |x::l=>if p x then 0 else if q5r p l<0 then-1 else q5r p l+1
section
variable {α:Type} {p:α→Bool}
theorem q6k:∀{l:List α},(∀x∈l,p x=false)→q5r p l= -1
 |[],_=>rfl
 |x::l,h=>by
  unfold q5r
  rw[h x Qb4,q6k (l:=l) (fun y hy=>h y (Qb7 _ hy))]
  rfl
theorem q4r {d:α}:∀{l:List α} {k:Nat},k<l.length→(∀j,j<k→p (l.getD j d)=false)→p (l.getD k d)=true→q5r p l=k
 |[],k,h,_,_=>by simp at h
 |x::l,0,_,_,h=>by
  simp at h
  unfold q5r
  rw[if_pos h];rfl
 |x::l,k+1,hk,hj,h=>by
  have h0:=hj 0 (by omega)
  simp at h0
  have ih:=q4r (l:=l) (k:=k) (d:=d) (by simpa using hk) (fun j hjk=>by have:=hj (j+1) (by omega);simpa using this) (by simpa using h)
  unfold q5r
  rw[h0,ih]
  simp
  omega
theorem q4q:∀(l:List α),decide (0≤q5r p l)=l.any p
 |[]=>rfl
 |x::l=>by
  have ih:=q4q l
  unfold q5r
  rw[Qh0]
  cases hx:p x with
  |true=>simp
  |false=>
   simp only[Qm2,Qj6,if_false]
   rw[←ih]
   split
   ·rename_i h;simp;omega
   ·rename_i h;simp;omega
theorem u6x {l:List α} {d:α} (h:∀j,j<l.length→p (l.getD j d)=false):l.any p=false:=by
 rw[Qi8]
 intro x hx
 obtain⟨j,hj,rfl⟩:=List.mem_iff_getElem.1 hx
 have:=h j hj
 rw[Qa1,Qa0 hj]at this
 simpa using this
theorem q7i {l:List α} {d:α} (h:∀j,j<l.length→p (l.getD j d)=false):∀x∈l,p x=false:=by
 intro x hx
 obtain⟨j,hj,rfl⟩:=List.mem_iff_getElem.1 hx
 have:=h j hj
 rw[Qa1,Qa0 hj]at this
 simpa using this
theorem k0k {l:List α} {d:α} {k:Nat} (hk:k<l.length) (h:p (l.getD k d)=true):l.any p=true:=by
 rw[Qf7]
 refine⟨l.getD k d,?_,h⟩
 rw[Qa1,Qa0 hk]
 exact Qc7 hk
theorem q4a {f:Nat→Bool} {k:Nat} (h:∀j,j<k→f j=false) (hk:f k=false):∀j,j<k+1→f j=false:=fun j hj=>by
 rcases Nat.lt_succ_iff_lt_or_eq.1 hj with h1|rfl
 ·exact h j h1
 ·exact hk
theorem q0t {l:List α} {d:α} {k:Nat} (hk:k<l.length):l.getD k d∈l:=by
 rw[Qa1,Qa0 hk];exact Qc7 hk
theorem q6h {l:List α} {d:α} {k:Nat} (hk:k<l.length):l.take (k+1)=l.take k++[l.getD k d]:=by
 rw[Qb9 hk,Qa1,Qa0 hk];rfl
end
theorem q5f {x n:Int}:q2q x n=true↔x≠0∧-n≤x∧x≤n:=by
 unfold q2q;simp[Qa2,bne_iff_ne,and_assoc]
theorem u3j {a:List Bool} {x:Int} (h:q2q x 65536=false):z4l a x=false:=by unfold z4l;rw[h];rfl
theorem k6s {a:List Bool} {x:Int} (h:q2q x 65536=true):z4l a x=((decide ((x.natAbs:Int)<(a.length:Int))&&a.getD ((x.natAbs:Int)).toNat false)==decide (x>0)):=by
 unfold z4l;rw[h]
 simp[Int.ofNat_lt]
theorem u3y {N:Int} {cs:List (List Int)} (h:N<0∨65536<N):q3x N cs=1:=if_pos h
theorem u2b {N:Int} {cs:List (List Int)} (h:¬(N<0∨65536<N)) {k:Nat} (hk:k<cs.length) (hb:u7z N (cs.getD k [])=true):q3x N cs=1:=by
 unfold q3x;rw[if_neg h,if_pos (k0k hk hb)]
theorem u1i {N:Int} {cs:List (List Int)} (h:¬(N<0∨65536<N)) (hb:∀j,j<cs.length→u7z N (cs.getD j [])=false):q3x N cs=if 65536<cs.length then 2 else 0:=by
 unfold q3x;rw[if_neg h,if_neg (by rw[u6x hb];simp)]
theorem q6b {N:Int} {cs:List (List Int)}:q3x N cs=0↔(0≤N∧N≤65536)∧(∀l∈cs,∀x∈l,q2q x N=true)∧cs.length≤65536:=by
 unfold q3x
 by_cases h1:N<0∨65536<N
 ·rw[if_pos h1]
  constructor
  ·intro h;cases h
  ·rintro⟨h,_⟩;omega
 ·rw[if_neg h1]
  by_cases h2:cs.any (u7z N)=true
  ·rw[if_pos h2]
   constructor
   ·intro h;cases h
   ·rintro⟨_,h,_⟩
    obtain⟨l,hl,hb⟩:=List.any_eq_true.1 h2
    obtain⟨x,hx,hn⟩:=List.any_eq_true.1 hb
    rw[h l hl x hx]at hn
    cases hn
  ·rw[if_neg h2]
   have hall:∀l∈cs,∀x∈l,q2q x N=true:=by
    intro l hl x hx
    cases hm:q2q x N with
    |true=>rfl
    |false=>exact absurd (List.any_eq_true.2 ⟨l,hl,List.any_eq_true.2 ⟨x,hx,by rw[hm];rfl⟩⟩) h2
   split
   ·constructor
    ·intro h;cases h
    ·rintro⟨_,_,h⟩;omega
   ·exact⟨fun _=>⟨by omega,hall,by omega⟩,fun _=>rfl⟩
theorem y3l {α:Type} {p:α→Bool} (l:List α):(!(l.any fun x=> !p x))=l.all p:=by
 induction l with
 |nil=>rfl
 |cons x l ih=>simp only[Qh0,Qj8,Bool.not_or,Bool.not_not,ih]
end Go.Proofs.YteikjpbbhopkaaaGreatDoor.Cn
namespace Go.Proofs.YteikjpbbhopkaaaGreatDoor.Cn
open Go
def u3q (a:List Int) (x:Int):Int:=if x>0 then a.getD x.toNat 0 else(3-a.getD (-x).toNat 0).tmod 3
def x4g (a:List Int) (x:Int):List Int:=if x>0 then a.set x.toNat 1 else a.set (-x).toNat 2
def OkA (a:List Int):Prop:=∀i,0≤a.getD i 0∧a.getD i 0≤2
def q3e (F:Nat→Bool) (x:Int):Bool:=F x.natAbs==decide (0<x)
def Ext (a:List Int) (F:Nat→Bool):Prop:=∀i,1≤i→(a.getD i 0=1→F i=true)∧(a.getD i 0=2→F i=false)
def Sat (c:List (List Int)) (a:List Int):Prop:=∃F,Ext a F∧∀l∈c,l.any (q3e F)=true
def zer (a:List Int):Nat:=a.count 0
section
variable {a:List Int} {F:Nat→Bool} {x:Int} {l:List Int} {c:List (List Int)}
def lkS (a:List Int) (s:Int×Int) (x:Int):Int×Int:=if u3q a x=0∧x≠s.1 then(x,(if u3q a x=1 then 3 else s.2)+1)else(s.1,if u3q a x=1 then 3 else s.2)
def lk (a:List Int) (l:List Int) (k:Nat):Int×Int:=(l.take k).foldl (lkS a) (0,0)
structure LkI (a l:List Int) (k:Nat):Prop where
 lo:0≤(lk a l k).2
 hi:(lk a l k).2≤k+3
 z:(lk a l k).2=0→(lk a l k).1=0∧∀x∈l.take k,u3q a x=2
 one:(lk a l k).2=1→(lk a l k).1∈l.take k∧u3q a (lk a l k).1=0∧∀x∈l.take k,x=(lk a l k).1∨u3q a x=2
 all:(∀x∈l.take k,u3q a x=2)→lk a l k=(0,0)
abbrev lkL (a l:List Int):Int×Int:=lk a l l.length
def psS (s:List Int×Bool×Bool) (l:List Int):List Int×Bool×Bool:=
 if s.2.2=true then s else if(lkL s.1 l).2=0 then(s.1,s.2.1,true)else if(lkL s.1 l).2=1 then(x4g s.1 (lkL s.1 l).1,true,false)else s
def ps (c:List (List Int)) (a:List Int) (i:Nat):List Int×Bool×Bool:=(c.take i).foldl psS (a,false,false)
structure PsI (c:List (List Int)) (a:List Int) (i:Nat):Prop where
 ok:OkA (ps c a i).1
 len:(ps c a i).1.length=a.length
 zle:zer (ps c a i).1≤zer a
 zlt:(ps c a i).2.1=true→zer (ps c a i).1<zer a
 same:(ps c a i).2.1=false→(ps c a i).1=a
 ext:∀F,Ext (ps c a i).1 F→Ext a F
 sat:∀F,Ext a F→(∀l∈c,l.any (q3e F)=true)→Ext (ps c a i).1 F∧(ps c a i).2.2=false
 nz:(ps c a i).2.2=false→(ps c a i).2.1=false→∀k,k<i→k<c.length→(lkL a (c.getD k [])).2≠0
def spF (c:List (List Int)):Nat→List Int→Bool×List Int
 |0,a=>(true,a)
 |f+1,a=>if(ps c a c.length).2.2=true then(false,(ps c a c.length).1)else if(ps c a c.length).2.1=true then spF c f (ps c a c.length).1 else(true,(ps c a c.length).1)
def spr (c:List (List Int)) (a:List Int):Bool×List Int:=spF c (zer a+1) a
def rnd (c:List (List Int)) (a:List Int):Nat→List Int
 |0=>a
 |n+1=>(ps c (rnd c a n) c.length).1
def agn (c:List (List Int)) (a:List Int):Nat→Bool
 |0=>true
 |n+1=>(ps c (rnd c a n) c.length).2.1
structure v3y (c:List (List Int)) (a:List Int) (n:Nat):Prop where
 ok:OkA (rnd c a n)
 len:(rnd c a n).length=a.length
 hn:n≤zer a+1
 go:agn c a n=true→zer (rnd c a n)+n≤zer a∧spF c (zer a+1-n) (rnd c a n)=spr c a
 fin:agn c a n=false→spr c a=(true,rnd c a n)
structure v3x (c:List (List Int)) (a:List Int) (r:Bool×List Int):Prop where
 ok:OkA r.2
 len:r.2.length=a.length
 zle:zer r.2≤zer a
 ext:∀F,Ext r.2 F→Ext a F
 sat:∀F,Ext a F→(∀l∈c,l.any (q3e F)=true)→Ext r.2 F∧r.1=true
 nz:r.1=true→∀k,k<c.length→(lkL r.2 (c.getD k [])).2≠0
end
end Go.Proofs.YteikjpbbhopkaaaGreatDoor.Cn
