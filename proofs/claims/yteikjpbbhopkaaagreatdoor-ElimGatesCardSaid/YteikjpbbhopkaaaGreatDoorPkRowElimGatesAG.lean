/- Lemmas and contracts for the row. -/
import Derived.Test.YteikjpbbhopkaaaGreatDoorPkRowElimGatesP
import Derived.Test.YteikjpbbhopkaaaGreatDoorPkRowElimGatesC
import Derived.Test.YteikjpbbhopkaaaGreatDoorPkRowElimGatesQ
import Derived.Test.YteikjpbbhopkaaaGreatDoorPkRowElimGatesW
import Derived.Test.YteikjpbbhopkaaaGreatDoorPkRowElimGatesAE
import Derived.Test.YteikjpbbhopkaaaGreatDoorPkRowElimGatesAF
set_option linter.unusedVariables false
set_option linter.unusedSimpArgs false
set_option linter.unnecessarySimpa false
namespace Go.Proofs.YteikjpbbhopkaaaGreatDoor
open Go Go.RowKit Go.Sort Go.Shelf
open Cn (ahd q2w)
theorem u6g:OneCell I64:=fun _=>rfl
def Turned (e:Nat) (w:World) (v:Value) (us:List Value) (w':World) (v':Value):Prop:=Own w' e v' us∧w.grownBy w' v.ownBlock∧∀b,v'.ownBlock=some b→v.ownBlock=some b
theorem y9t {w w':World} {g:Nat} (h:Kp (fun b=>b=g) w w'):w.grownBy w' (some g):=⟨h.os,h.tape,h.output,h.size,fun k hk hn=>h.block k hk (fun e=>hn (by rw[e]))⟩
theorem j2j (w:World) (r:Option Nat):w.grownBy w r:=⟨rfl,rfl,rfl,Qb8 _,fun _ _ _=>rfl⟩
theorem x1e {α:Type} [Inhabited α] (enc:α→Value) (w:World) (blk off q:Nat) (d:Array α):putRow enc (Sort.ahead w q) blk off d=sortWorld enc w blk off q d #[]:=by unfold sortWorld;rw[grow_empty]
def u8t (f:Nat) (lb:List Value) (p:Int→Bool) (G:Nat→Prop) (w:World):Prop:=
 ∀(W:World) (x:Int),(∀b,G b→W.heap[b]? =w.heap[b]?)→Calls Tryz.prog f (I64 x::lb).toArray W fun e w'=>e=.returned (.bool (p x))∧W=w'
theorem k5p (A:Option Addr) (c:Nat) (fv:Value) (w:World):Calls Tryz.prog 47 #[.slice A 0 c,fv] w fun e w'=>e=.returned (I64 (-1))∧w=w':=by
 go_enter Tryz.func47,Tryz.ntmps47
 go_wp2_with fail
 refine wp_loop_rounds 1 ?_
 rw[rounds_succ]
 go_wp2_with fail
 go_ret
 exact⟨rfl,rfl⟩
theorem x6i (A:Option Addr) (c:Nat) (fv:Value) (w:World):Calls Tryz.prog 91 #[.slice A 0 c,fv] w fun e w'=>e=.returned (.slice A 0 c)∧w=w':=by
 go_enter Tryz.func91,Tryz.ntmps91
 go_wp2_with fail
 refine(k5p A c fv w).mono ?_
 rintro e w1 ⟨rfl,rfl⟩
 go_wp2_with fail
 go_ret
 exact⟨rfl,rfl⟩
theorem x7j {f:Nat} {lb:List Value} {p:Int→Bool} {G:Nat→Prop} {v:Value} {xs:List Int} {w:World} (heg:∀(args:Array Value) (w:World),(callFunc f args).run Tryz.prog w=.ok (.enter f args) w)
 (hG:∀b,G b→b<w.heap.size) (hv:∀b,v.ownBlock=some b→¬G b) (hp:u8t f lb p G w) (ho:Own w 3 v (xs.map I64)) (hl:xs.length≤maxLen):
 Calls Tryz.prog 91 #[v,.func (.func f) #[] lb.toArray] w fun e w'=>∃v',e=.returned v'∧Turned 3 w v ((xs.filter fun x=> !p x).map I64) w' v':=by
 obtain⟨A,cap,hform,_⟩:=ho.form
 rw[Qa9]at hform
 subst hform
 by_cases h0:xs.length=0
 ·obtain rfl:=Qc8 h0
  refine(x6i A cap _ w).mono ?_
  rintro e w' ⟨rfl,rfl⟩
  exact⟨_,rfl,ho,j2j _ _,fun _ h=>h⟩
 ·obtain⟨g,off,rfl⟩:=ho.addr (by omega)
  obtain⟨cur,h1,h2,h3,h4,_⟩:=ho.cur rfl
  rw[Qa9]at h2
  have hng:¬G g:=hv g rfl
  have hcall:∀(W:World) (x:Int),(∀b,G b→W.heap[b]? =w.heap[b]?)→FnGives Tryz.prog f lb.toArray #[I64 x] (.bool (p x)) W:=fun W x hW=>by
   unfold FnGives
   have e: #[I64 x]++lb.toArray=(I64 x::lb).toArray:=by simp
   rw[e]
   refine(hp W x hW).mono ?_
   rintro e w' ⟨rfl,rfl⟩
   exact⟨rfl,0,rfl⟩
  have h:=AnyE.slices_DeleteFunc Tryz.shDelete I64 u6g p f lb.toArray heg 0 (fun w=>Tryz.zeroValue3 w) g off cap xs.toArray w
   (fun W x hb=>hcall W x fun b hb'=>hb.block b (hG b hb')) (fun n os dk x _=>hcall _ x fun b hb'=>(j7n n dk os).block b (hG b hb') (fun e=>hng (e▸hb')))
   (z8c ho) (by simp;unfold maxLen at hl;omega) (by simpa using h2)
  simp only[Qi9,List.toList_toArray]at h
  refine Calls.mono h ?_
  rintro e w' ⟨rfl,q,rfl⟩
  have hfl:(xs.filter fun x=> !p x).length≤xs.length:=Qd8 _ _
  rw[x1e]
  refine⟨_,rfl,?_,y9t (j7n _ _ _),fun b h=>h⟩
  have:=j4k ho q #[] (ys:=(xs.filter fun x=> !p x)++List.replicate (xs.length-(xs.filter fun x=> !p x).length) 0) (by simp;omega) (m:=(xs.filter fun x=> !p x).length) (by simp)
  rw[Qr4]at this
  ·exact this
  ·rfl
theorem y5h {v:Value} {xs:List Int} {w:World} (ho:Own w 3 v (xs.map I64)) (hl:xs.length≤maxLen):
 Calls Tryz.prog 99 #[v] w fun e w'=>∃v',e=.returned v'∧Turned 3 w v ((Lib.compact xs).map I64) w' v':=by
 obtain⟨A,cap,hform,_⟩:=ho.form
 rw[Qa9]at hform
 subst hform
 by_cases h0:xs.length=0
 ·obtain rfl:=Qc8 h0
  refine(AnyG.slices_Compact_int_empty Tryz.shCompact A cap w).mono ?_
  rintro e w' ⟨rfl,rfl⟩
  exact⟨_,rfl,ho,j2j _ _,fun _ h=>h⟩
 ·obtain⟨g,off,rfl⟩:=ho.addr (by omega)
  obtain⟨cur,h1,h2,h3,h4,_⟩:=ho.cur rfl
  rw[Qa9]at h2
  refine(AnyG.slices_Compact_int Tryz.shCompact g off cap xs w (z8c ho) (by unfold maxLen at hl;omega) h2).mono ?_
  rintro e w' ⟨rfl,q,rfl⟩
  have hfl:(Lib.compact xs).length≤xs.length:=Lib.compact_length_le xs
  rw[x1e]
  refine⟨_,rfl,?_,y9t (j7n _ _ _),fun b h=>h⟩
  have:=j4k ho q #[] (ys:=Lib.compact xs++List.replicate (xs.length-(Lib.compact xs).length) 0) (by simp;omega) (m:=(Lib.compact xs).length) (by simp)
  rw[Qr4]at this
  ·exact this
  ·rfl
abbrev Lit:={x:Int//Cn.q2q x 65536=true}
instance:Inhabited Lit:=⟨⟨1,by decide⟩⟩
def j1k (x:Lit):Value:=I64 x.1
theorem u2i:OneCell j1k:=fun _=>rfl
theorem y5z (x y:Int):decide (cmpL x y<0)=ahd x y:=by
 unfold cmpL x4t ahd
 rw[decide_eq_decide]
 split<;>rename_i h<;>(repeat' split)<;>first|omega|(constructor<;>intro _<;>omega)|skip
theorem u1l {x:Int} (h:Cn.q2q x 65536=true):x≠0∧-65536≤x∧x≤65536:=by
 simp[Cn.q2q]at h
 omega
theorem u2h:SWO (ltOf fun(x y:Lit)=>cmpL x.1 y.1):=by
 refine⟨fun x=>?_,fun x y z=>?_,fun x y z=>?_⟩<;>simp only[ltOf,y5z,ahd,decide_eq_true_eq,decide_eq_false_iff_not]<;>omega
theorem k1z {v:Value} {xs:List Int} {w:World} (hm:∀x∈xs,Cn.q2q x 65536=true) (ho:Own w 3 v (xs.map I64)) (hl:xs.length≤1000000000000):
 Calls Tryz.prog 95 #[v,.func (.func 96) #[] #[]] w fun e w'=>e=.returned (.tuple #[])∧Own w' 3 v ((q2w xs).map I64)∧Kp (fun b=>v.ownBlock=some b) w w':=by
 obtain⟨A,cap,hform,_⟩:=ho.form
 rw[Qa9]at hform
 subst hform
 by_cases h0:xs.length=0
 ·obtain rfl:=Qc8 h0
  refine(AnyF.slices_SortFunc_none (P:=Tryz.prog) (ρ:=Tryz.shSortF_ren) {Tryz.shSortF with} A cap _ w).mono ?_
  rintro e w' ⟨rfl,rfl⟩
  exact⟨rfl,by simpa[q2w]using ho,Kp.refl _ _⟩
 ·obtain⟨g,off,rfl⟩:=ho.addr (by omega)
  have hlt:g<w.heap.size:=ho.lt rfl
  let ls:List Lit:=xs.pmap Subtype.mk hm
  have hls:ls.map (fun x:Lit=>x.1)=xs:=by simp[ls,List.map_pmap]
  have hle:ls.length=xs.length:=by simp[ls]
  have hen:ls.map j1k=xs.map I64:=by rw[←hls,Ql8];rfl
  have hol:Own w 3 (.slice (some ⟨g,off,none⟩) xs.length cap) (ls.map j1k):=by rw[hen];exact ho
  have hcmp:CmpLays1 Tryz.prog 96 #[] j1k (fun(x y:Lit)=>cmpL x.1 y.1) g off ls.toArray.size w:=fun m os dk _ x y=>by
   have hx:=u1l x.2
   have hy:=u1l y.2
   refine(u2y x.1 y.1 _ hx.2.1 hx.2.2 hy.2.1 hy.2.2).mono ?_
   rintro e w' ⟨rfl,os',rfl⟩
   exact⟨rfl,0,os',rfl⟩
  have h:=Any.slices_SortFunc_total Tryz.shSortF j1k u2i (fun(x y:Lit)=>cmpL x.1 y.1) u2h 96 #[] g off cap ls.toArray w (En.q0r Tryz.func96 (by kernel_rfl) rfl) hcmp (z8c hol) hlt (by simp[hle];omega)
   (fun x y h1 h2=>by
    simp only[ltOf,y5z,ahd,decide_eq_false_iff_not]at h1 h2
    exact Subtype.ext (by omega))
  simp only[Qi9,List.toList_toArray,hle]at h
  refine Calls.mono h ?_
  rintro e w' ⟨rfl,n,os,rfl⟩
  refine⟨rfl,?_,(j7n _ _ _).mono fun k _ h=>by subst h;rfl⟩
  have h2:=j4k hol n os (ys:=ls.mergeSort fun x y=> !(ltOf fun(x y:Lit)=>cmpL x.1 y.1) y x) (by simp) (m:=xs.length) (by simp[hle])
  rw[Qd6 (by simp[hle])]at h2
  have h3:(ls.mergeSort fun x y=> !(ltOf fun(x y:Lit)=>cmpL x.1 y.1) y x).map j1k=(q2w xs).map I64:=by
   have:=List.map_mergeSort (r:=fun x y=> !(ltOf fun(x y:Lit)=>cmpL x.1 y.1) y x) (s:=fun x y=> !ahd y x) (f:=fun x:Lit=>x.1) (l:=ls) (fun a _ b _=>by simp only[ltOf,y5z])
   rw[hls]at this
   unfold q2w
   rw[←this,Ql8]
   rfl
  rw[h3]at h2
  exact h2
theorem u7c (n:Nat) (hn:n≤1000000) (w:World):Calls Tryz.prog 112 #[.slice none 0 0,.int .i64 n] w fun e w'=>∃A c,e=.returned (.slice A 0 c)∧Own w' 3 (.slice A 0 c) []∧
 (∀g,(Value.slice A 0 c).ownBlock=some g→w.heap.size≤g)∧Below w.heap.size w w':=by
 by_cases h0:n=0
 ·subst h0
  refine(Any8.slices_Grow_room Tryz.shGrow none 0 0 0 w (by omega) (by omega) (by omega) (by omega)).mono ?_
  rintro e w' ⟨rfl,rfl⟩
  exact⟨none,0,rfl,Own.nil _ _,fun g h=>(by cases h),Below.refl _ _⟩
 ·have hinf:(Tryz.prog.info? 3).map (fun i=>(i.zero,i.size,i.bytes))=some (some (.int .i64 0),1,8):=by kernel_rfl
  obtain⟨i0,hi,hz0,hz1,hz2⟩:=info_parts hinf
  refine(Any8.slices_Grow_grow Tryz.shGrow i0 (.int .i64 0) hi hz0 (by omega) none 0 0 n [] w (by omega) (by omega) (by rw[hz2];omega) (by omega) (by simp) (fun _=>rfl) (fun a h=>by cases h)).mono ?_
  rintro e w' ⟨rfl,rfl⟩
  have hge:=grownCap_ge w (0+n) 0 3
  have hle:=grownCap_le_maxLen w (0+n) 0 3 (by unfold maxLen;omega)
  refine⟨_,_,rfl,.inr ⟨w.heap.size,0,_,_,rfl,.mk0 (heap_alloc_new _ _),Qc1 _,hle,?_,fun j h=>by simp at h⟩,fun g h=>?_,((Below.refl _ w).drew).alloc (Qb8 _) _⟩
  ·simp only[Qp8,size_zeroCells,Qi9,Qb5,Qg7,Nat.sub_zero]at hge⊢
   simp[Value.cells]
   omega
  ·simp[Value.ownBlock]at h
   omega
end Go.Proofs.YteikjpbbhopkaaaGreatDoor
namespace Go.Proofs.YteikjpbbhopkaaaGreatDoor.En
open Go Go.RowKit
def k5j:CtF:=fun args os=>match args,os with
 |[.row 0,.clo 94 []],[.row 3 (.ints xs)]=>some (xs.length≤1000000000000,.row 1,[none,some (.row 3 (.ints (xs.filter fun x=>Cn.q2q x 65536)))])
 |_,_=>none
def k5n:CtF:=fun args os=>match args,os with
 |[.row 0,.clo 92 [.pto [.val (.int .i64 y)]]],[.row 3 (.ints xs)]=>some (xs.length≤1000000000000,.row 1,[none,some (.row 3 (.ints (xs.filter fun x=> !(x==y))))])
 |_,_=>none
def k2r:CtF:=fun args os=>match args,os with
 |[.row 0,.clo 96 []],[.row 3 (.ints xs)]=>some (xs.length≤1000000000000∧∀x∈xs,Cn.q2q x 65536=true,.tup [],[some (.row 3 (.ints (Cn.q2w xs)))])
 |_,_=>none
def j5g:CtF:=fun args os=>match args,os with
 |[.row 0],[.row 3 (.ints xs)]=>some (xs.length≤1000000000000,.row 1,[none,some (.row 3 (.ints (Lib.compact xs)))])
 |_,_=>none
def u6e:CtF:=fun args os=>match args,os with
 |[.im (.val (.slice .none 0 0)),.im (.val (.int .i64 n))],[]=>some (0≤n∧n≤1000000,.row 0,[some (.row 3 (.ints []))])
 |_,_=>none
theorem x5y {g:Gh} {a b:Value} {vs:List Value} (h:q0e g [.im (.val a),.im (.val b)] vs):vs=[a,b]:=by
 simp only[q0e]at h
 obtain⟨v,vs',rfl,h1,u,us,rfl,h2,rfl⟩:=h
 rw[q0b h1,q0b h2]
theorem z3k {w:World} {v:Value} {us:List Value} {e:Ending} {w':World} (h:∃v',e=.returned v'∧Turned 3 w v us w' v'):
 ∃v',e=.returned v'∧Own w' 3 v' us∧w.grownBy w' v.ownBlock∧∀b,v'.ownBlock=some b→v.ownBlock=some b∨b=w.heap.size:=by
 obtain⟨v',h1,h2,h3,h4⟩:=h
 exact⟨v',h1,h2,h3,fun b hb=>.inl (h4 b hb)⟩
theorem z6o:q0c Tryz.prog 91 k5j:=by
 refine sound_row (e:=3) (q0r Tryz.func91 (by kernel_rfl) rfl) fun args os p r outs h=>?_
 unfold k5j at h
 split at h
 ·rename_i xs
  injection h with h
  injection h with h1 h
  injection h with h2 h3
  subst h1 h2 h3
  refine⟨_,.ints xs,_,rfl,rfl,rfl,rfl,rfl,rfl,rfl,fun hp=>⟨?_,fun W G v vs hG hn _ ho hl hd=>?_⟩⟩
  ·have:=Qd8 (fun x=>Cn.q2q x 65536) xs
   show(xs.filter _).length≤maxLen
   unfold maxLen;omega
  ·simp only[q0e,Den]at hd
   obtain⟨v1,vs',rfl,⟨lb,hv1,rfl⟩,rfl⟩:=hd
   rw[z1u (by kernel_rfl)]at hv1
   subst hv1
   have:=x7j (f:=94) (lb:=[]) (p:=fun x=> !Cn.q2q x 65536) (G:=G) (v:=v) (xs:=xs) (w:=W) (q0r Tryz.func94 (by kernel_rfl) rfl) hG hn (fun W x _=>u3l x W) ho hl
   refine this.mono fun e' W' h=>z3k ?_
   simp only[Bool.not_not]at h
   exact h
 ·cases h
theorem z9o:q0c Tryz.prog 91 k5n:=by
 refine sound_row (e:=3) (q0r Tryz.func91 (by kernel_rfl) rfl) fun args os p r outs h=>?_
 unfold k5n at h
 split at h
 ·rename_i y xs
  injection h with h
  injection h with h1 h
  injection h with h2 h3
  subst h1 h2 h3
  refine⟨_,.ints xs,_,rfl,rfl,rfl,rfl,rfl,rfl,rfl,fun hp=>⟨?_,fun W G v vs hG hn _ ho hl hd=>?_⟩⟩
  ·have:=Qd8 (fun x=> !(x==y)) xs
   show(xs.filter _).length≤maxLen
   unfold maxLen;omega
  ·simp only[q0e,Den]at hd
   obtain⟨v1,vs',rfl,⟨lb,hv1,u,lb',rfl,⟨b,off,rfl,hb,hc⟩,rfl⟩,rfl⟩:=hd
   rw[z1u (by kernel_rfl)]at hv1
   subst hv1
   obtain⟨u,hcu,hru⟩:=hc 0 (.val (.int .i64 y)) rfl
   have hu:u=I64 y:=q0b (g:=g0 W G) (by simp only[Den];exact hru)
   subst hu
   have:=x7j (f:=92) (lb:=[.pointer (some ⟨b,off,none⟩)]) (p:=fun x=>x==y) (G:=G) (v:=v) (xs:=xs) (w:=W) (q0r Tryz.func92 (by kernel_rfl) rfl) hG hn
    (fun W1 x hW=>u4u b off y x W1 ((World.cell?_of_block (a:=⟨b,off,none⟩) (hW b hb)).trans hcu)) ho hl
   exact this.mono fun e' W' h=>z3k h
 ·cases h
theorem j0i:q0c Tryz.prog 99 j5g:=by
 refine sound_row (e:=3) (q0r Tryz.func99 (by kernel_rfl) rfl) fun args os p r outs h=>?_
 unfold j5g at h
 split at h
 ·rename_i xs
  injection h with h
  injection h with h1 h
  injection h with h2 h3
  subst h1 h2 h3
  refine⟨_,.ints xs,_,rfl,rfl,rfl,rfl,rfl,rfl,rfl,fun hp=>⟨?_,fun W G v vs hG hn _ ho hl hd=>?_⟩⟩
  ·have:=Lib.compact_length_le xs
   show(Lib.compact xs).length≤maxLen
   unfold maxLen;omega
  ·simp only[q0e]at hd
   subst hd
   exact(y5h ho hl).mono fun e' W' h=>z3k h
 ·cases h
theorem j9h:q0c Tryz.prog 95 k2r:=by
 refine y4c (e:=3) (q0r Tryz.func95 (by kernel_rfl) rfl) fun args os p r outs h=>?_
 unfold k2r at h
 split at h
 ·rename_i xs
  injection h with h
  injection h with h1 h
  injection h with h2 h3
  subst h1 h2 h3
  refine⟨_,.ints xs,_,_,rfl,rfl,rfl,rfl,rfl,rfl,rfl,rfl,fun hp=>⟨?_,?_,fun W G v vs hG hn _ ho hl hd=>?_⟩⟩
  ·show(Cn.q2w xs).length≤maxLen
   simp only[Cn.q2w,Ql4]
   unfold maxLen;omega
  ·show(Cn.q2w xs).length=xs.length
   simp only[Cn.q2w,Ql4]
  ·simp only[q0e,Den]at hd
   obtain⟨v1,vs',rfl,⟨lb,hv1,rfl⟩,rfl⟩:=hd
   rw[z1u (by kernel_rfl)]at hv1
   subst hv1
   exact k1z hp.2 ho hp.1
 ·cases h
theorem y5d:q0c Tryz.prog 112 u6e:=by
 refine z1v (e:=3) (q0r Tryz.func112 (by kernel_rfl) rfl) fun args os p r outs h=>?_
 unfold u6e at h
 split at h
 ·rename_i n
  injection h with h
  injection h with h1 h
  injection h with h2 h3
  subst h1 h2 h3
  refine⟨_,rfl,rfl,rfl,rfl,fun hp=>⟨by decide,fun W G vs hG _ hd=>?_⟩⟩
  have hv:=x5y hd
  obtain⟨k,rfl⟩:=Qi4 hp.1
  subst hv
  refine(u7c k (by omega) W).mono ?_
  rintro e' W' ⟨A,c,rfl,h1,h2,h3⟩
  exact⟨_,rfl,h1,h3,h2⟩
 ·cases h
end Go.Proofs.YteikjpbbhopkaaaGreatDoor.En
namespace Go.Proofs.YteikjpbbhopkaaaGreatDoor.En
open Go Go.RowKit
def y2b:List (Nat×TD):=[(3,⟨1,false,[.int .i64 0],[],none,8,false,1,1⟩),
 (31,⟨1,false,[.slice none 0 0],[],some 34,24,false,0,0⟩),
 (34,⟨1,false,[.slice none 0 0],[],some 3,24,false,0,3⟩),
 (60,⟨1,false,[.nilFunc],[],none,8,false,0,0⟩),
 (128,⟨1,false,[.nilFunc],[],none,8,false,0,0⟩)]
theorem z3c:q5u Tryz.prog y2b:=⟨⟨by kernel_rfl,by kernel_rfl,by kernel_rfl⟩,⟨by kernel_rfl,by kernel_rfl,by kernel_rfl⟩,⟨by kernel_rfl,by kernel_rfl,by kernel_rfl⟩,⟨by kernel_rfl,by kernel_rfl,by kernel_rfl⟩,⟨by kernel_rfl,by kernel_rfl,by kernel_rfl⟩,trivial⟩
def y8s:Cx:=⟨y2b,[(48,z0k),(91,(orF k5j k5n)),(95,k2r),(99,j5g)],false⟩
theorem y6m:q1c Tryz.prog y8s:=q0s z3c ⟨q2t,(z6o.or z9o),j9h,j0i,trivial⟩
def j7h:CtF
 |[.im (.ls (.ints l))],[]=>some (l.length≤1000000,.tup [.row 0,.bool (Cn.q8f l)],[some (.row 3 (.ints (Cn.q5t l)))])
 |_,_=>none
theorem z7b:q0c Tryz.prog 54 j7h:=by
 refine Sw (cx:=y8s) Tryz.f54 Tryz.func54 ?_
 intro wW wO wβ G0 args os p r outs hσ hp
 have hcx:=y6m
 have hmx:Tryz.prog.follows .mixedOrders=true:=by kernel_rfl
 unfold j7h at hσ
 split at hσ
 ·
  rename_i l
  cases hσ
  refine⟨by kernel_rfl,?_⟩
  have hf:=Qd8 (fun x=>Cn.q2q x 65536) l
  have hs:(Cn.q2w (l.filter fun x=>Cn.q2q x 65536)).length=(l.filter fun x=>Cn.q2q x 65536).length:=Ql4 ..
  have hnl:(Lib.compact (Cn.q2w (l.filter fun x=>Cn.q2q x 65536))).length≤l.length:=Cn.y8x l
  have hnb:∀j,j<(Lib.compact (Cn.q2w (l.filter fun x=>Cn.q2q x 65536))).length→-65536≤(Lib.compact (Cn.q2w (l.filter fun x=>Cn.q2q x 65536))).getD j 0∧(Lib.compact (Cn.q2w (l.filter fun x=>Cn.q2q x 65536))).getD j 0≤65536:=fun j hj=>Cn.u2k (l:=l) hj
  refine Sz hcx [] [] [] [] (Sq hcx [(1002,.to 208)] [4] [0] [] [(l.length≤1000000000000),(l.length≤1000000000000)] ?_ (Sq hcx [(208,.to 208)] [] [] [] [((l.filter fun z9=>Cn.q2q z9 65536).length≤1000000000000∧∀z9∈(l.filter fun z9=>Cn.q2q z9 65536),Cn.q2q z9 65536=true)] ?_ (Sq hcx [(1001,.to 208)] [4] [] [208] [((Cn.q2w (l.filter fun z9=>Cn.q2q z9 65536)).length≤1000000000000)] ?_ (Zs (Sz hcx [] [14,15] [] [] (Zb (Lp (X:=Nat) (fun x0=>x0≤(Lib.compact (Cn.q2w (l.filter fun x=>Cn.q2q x 65536))).length∧∀j,0<j→j<x0→(Lib.compact (Cn.q2w (l.filter fun x=>Cn.q2q x 65536))).getD (j-1) 0≠-((Lib.compact (Cn.q2w (l.filter fun x=>Cn.q2q x 65536))).getD j 0)) (fun x0=>([(4,.row 208),(14,.int ((Lib.compact (Cn.q2w (l.filter fun z9=>Cn.q2q z9 65536))).length:Int)),(15,.int (x0:Int))],[(208,.row 3 (.ints (Lib.compact (Cn.q2w (l.filter fun z9=>Cn.q2q z9 65536)))))])) (fun x0=>(Lib.compact (Cn.q2w (l.filter fun x=>Cn.q2q x 65536))).length-x0) (0) ?_ (Ex 15 (congrArg AV.int (show 0=(0:Int)from(by first|rfl|omega|(simp;done)))) Eb) Hb fun k hI=>?_)))))))
  ·
   refine ap ?_ (ap ?_ az)<;>
    omega
  ·
   refine ap ?_ az
   exact⟨by omega,fun x hx=>(List.mem_filter.1 hx).2⟩
  ·
   refine ap ?_ az
   omega
  ·
   exact⟨Qc1 _,fun j _ hj=>by omega⟩
  ·
   try dsimp only at hI
   obtain⟨hk,hok⟩:=hI
   have hbk:k<(Lib.compact (Cn.q2w (l.filter fun x=>Cn.q2q x 65536))).length→_:=hnb k
   refine Sz hcx [] [16] [] [] (Zs (Zj (p:=((k:Int)<((Lib.compact (Cn.q2w (l.filter fun z9=>Cn.q2q z9 65536))).length:Int))) (fun h0=>?_) fun h0=>?_))
   ·
    refine Zk (Ft (Zs (Zb (Sz hcx [] [5] [16] [] (Sd hcx hmx [0,1,3,7,7,23,63,127,7,7,775,1799,3847,8191,16383] [] [32] [5] [] [((decide ((k:Int)>0))=true→((decide ((k:Int)>0))=true)),((decide ((k:Int)>0))=true→Fit ((k:Int)-1)),((decide ((k:Int)>0))=true→((decide ((k:Int)>0))=true)),((decide ((k:Int)>0))=true→((decide ((k:Int)>0))=true)),((decide ((k:Int)>0))=true→((0:Int)≤((k:Int)-1)∧((k:Int)-1)<((Lib.compact (Cn.q2w (l.filter fun z9=>Cn.q2q z9 65536))).length:Int))),((decide ((k:Int)>0))=true→((decide ((k:Int)>0))=true)),((decide ((k:Int)>0))=true→((((k:Int)-1).toNat)<(Lib.compact (Cn.q2w (l.filter fun z9=>Cn.q2q z9 65536))).length)),((decide ((k:Int)>0))=true→((decide ((k:Int)>0))=true)),((decide ((k:Int)>0))=true→((decide ((k:Int)>0))=true)),((decide ((k:Int)>0))=true→((0:Int)≤(k:Int)∧(k:Int)<((Lib.compact (Cn.q2w (l.filter fun z9=>Cn.q2q z9 65536))).length:Int))),((decide ((k:Int)>0))=true→((decide ((k:Int)>0))=true)),((decide ((k:Int)>0))=true→(k<(Lib.compact (Cn.q2w (l.filter fun z9=>Cn.q2q z9 65536))).length)),((decide ((k:Int)>0))=true→((decide ((k:Int)>0))=true)),((decide ((k:Int)>0))=true→Fit (-((Lib.compact (Cn.q2w (l.filter fun z9=>Cn.q2q z9 65536))).getD k 0))),((decide ((k:Int)>0))=true→((decide ((k:Int)>0))=true)),((decide ((k:Int)>0))=true→((decide ((k:Int)>0))=true)),((decide ((k:Int)>0))=true→(decide ((k:Int)>0))=true)] ?_ (Zi (b:=(decide ((k:Int)>0))&&(((Lib.compact (Cn.q2w (l.filter fun z9=>Cn.q2q z9 65536))).getD (((k:Int)-1).toNat) 0)==(-((Lib.compact (Cn.q2w (l.filter fun z9=>Cn.q2q z9 65536))).getD k 0)))) (fun h1=>?_) fun h1=>?_))))))
    ·
     refine ap ?_ (ap ?_ (ap ?_ (ap ?_ (ap ?_ (ap ?_ (ap ?_ (ap ?_ (ap ?_ (ap ?_ (ap ?_ (ap ?_ (ap ?_ (ap ?_ (ap ?_ (ap ?_ (ap (by exact id) az))))))))))))))))<;>
      first|omega|exact id|(intro h;simp at h;omega)
    ·
     try simp only[Qd2,Qc5,Qa2,Qd5,Qd1,Qe7,decide_eq_true_eq,decide_eq_false_iff_not,bne_iff_ne,bne_eq_false_iff_eq,beq_iff_eq,beq_eq_false_iff_ne]at h1
     have hq:=h1
     rw[show((k:Int)-1).toNat=k-1 by omega]at hq
     exact Sz hcx [] [2,3] [32,4,14,15] [] (Zr (Fk (Fr (Fr (Fk (Fr (Fn [(208,.to 0)] [2,3] (Rv hcx (congrArg AV.tup (q0f rfl (q0f (congrArg AV.bool (show true=(Cn.q8f l)from(by exact(Cn.j8c (xs:=Cn.q5t l) (i:=k) (by omega) (show k<(Lib.compact (Cn.q2w (l.filter fun x=>Cn.q2q x 65536))).length by omega) hq.2).symm))) rfl))) [true] (q1g (congrArg some (congrArg (fun x=>q0d.row 3 (.ints x)) (show(Lib.compact (Cn.q2w (l.filter fun z9=>Cn.q2q z9 65536)))=(Cn.q5t l)from(by first|rfl|(simp;done))))) rfl)))))))))
    ·
     try simp only[Qd2,Qc5,Qa2,Qd5,Qd1,Qe7,decide_eq_true_eq,decide_eq_false_iff_not,bne_iff_ne,bne_eq_false_iff_eq,beq_iff_eq,beq_eq_false_iff_ne]at h1
     have hq:=h1
     refine Zk (Fb (Ft (Tq hcx [] [15] [32] [] [Fit ((k:Int)+1)] ?_ (Lr (k+1) ?_ ?_ (Ex 15 (congrArg AV.int (show((k:Int)+1)=((k+1):Int)from(by first|rfl|omega|(simp;done)))) Eb) Hb))))
     ·
      refine ap ?_ az
      omega
     ·
      try dsimp only
      (refine⟨by omega,fun j hj0 hj=>?_⟩;by_cases hjk:j=k;(subst hjk;rcases hq with hq|hq;(exact absurd hj0 (by omega));(rwa [show((j:Int)-1).toNat=j-1 by omega]at hq));exact hok j hj0 (by omega))
     ·
      try dsimp only
      omega
   ·
    exact Ze (Fe (Fe (Fs (Ft (Sz hcx [] [2,3] [16,4,14,15] [] (Zr (Fn [(208,.to 0)] [2,3] (Rv hcx (congrArg AV.tup (q0f rfl (q0f (congrArg AV.bool (show false=(Cn.q8f l)from(by exact(Cn.y5p (xs:=Cn.q5t l) (Cn.z6b l) (fun x hx=>Cn.x7q hx) (fun i hi0 hi=>hok i hi0 (by have:i<(Lib.compact (Cn.q2w (l.filter fun x=>Cn.q2q x 65536))).length:=hi;omega))).symm))) rfl))) [true] (q1g (congrArg some (congrArg (fun x=>q0d.row 3 (.ints x)) (show(Lib.compact (Cn.q2w (l.filter fun z9=>Cn.q2q z9 65536)))=(Cn.q5t l)from(by first|rfl|(simp;done))))) rfl)))))))))
 ·
  cases hσ
def j3m:Cx:=⟨y2b,[(112,u6e)],false⟩
theorem j4y:q1c Tryz.prog j3m:=q0s z3c ⟨y5d,trivial⟩
def z8z:CtF
 |[.im (.ls (.intss xss))],[]=>some (xss.length≤1000000∧Cn.q5v xss≤1000000,.row 0,[some (.row 3 (.ints xss.flatten))])
 |_,_=>none
theorem j6h:q0c Tryz.prog 93 z8z:=by
 refine Sw (cx:=j3m) Tryz.f93 Tryz.func93 ?_
 intro wW wO wβ G0 args os p r outs hσ hp
 have hcx:=j4y
 unfold z8z at hσ
 split at hσ
 ·
  rename_i xss
  cases hσ
  refine⟨by kernel_rfl,?_⟩
  obtain⟨hm1,hm2⟩:=hp
  have hl1:=Cn.k1q xss
  have hl2:= @Cn.x8s xss
  refine Sz hcx [] [] [] [] (Sz hcx [] [3] [] [] (Zs (Sz hcx [] [9,10,11] [] [] (Zb (Lp (X:=Nat) (fun x0=>x0≤xss.length) (fun x0=>([(0,.intss xss),(3,.int (Cn.q5v (xss.take x0):Int)),(9,.intss xss),(10,.int (xss.length:Int)),(11,.int (x0:Int))],[])) (fun x0=>xss.length-x0) (0) ?_ (Ex 3 (congrArg AV.int (show 0=(Cn.q5v (xss.take 0):Int)from(by first|rfl|omega|(simp;done)))) (Ex 11 (congrArg AV.int (show 0=(0:Int)from(by first|rfl|omega|(simp;done)))) Eb)) Hb fun k hI=>?_)))))
  ·
   show 0≤xss.length
   omega
  ·
   replace hI:k≤xss.length:=hI
   have hl3:=hl1 k
   have hl4:=hl1 (k+1)
   have hl5:k<xss.length→_:=fun h=>hl2 h
   refine Sz hcx [] [12] [] [] (Zs (Zj (p:=((k:Int)<(xss.length:Int))) (fun h0=>?_) fun h0=>?_))
   ·
    refine Zk (Ft (Zs (Zb (Sq hcx [] [5] [12] [] [((0:Int)≤(k:Int)∧(k:Int)<(xss.length:Int))] ?_ (Sq hcx [] [3] [5] [] [Fit ((Cn.q5v (xss.take k):Int)+((xss.getD k []).length:Int))] ?_ (Sz hcx [] [20] [] [] (Zj (p:=(((Cn.q5v (xss.take k):Int)+((xss.getD k []).length:Int))<0)) (fun h1=>?_) fun h1=>?_)))))))
    ·
     refine ap ?_ az
     omega
    ·
     refine ap ?_ az
     omega
    ·
     omega
    ·
     refine Zk (Fb (Ft (Tq hcx [] [11] [20] [] [Fit ((k:Int)+1)] ?_ (Lr (k+1) ?_ ?_ (Ex 3 (congrArg AV.int (show((Cn.q5v (xss.take k):Int)+((xss.getD k []).length:Int))=(Cn.q5v (xss.take (k+1)):Int)from(by first|rfl|omega|(simp;done)))) (Ex 11 (congrArg AV.int (show((k:Int)+1)=((k+1):Int)from(by first|rfl|omega|(simp;done)))) Eb)) Hb))))
     ·
      refine ap ?_ az
      omega
     ·
      show(k+1)≤xss.length
      omega
     ·
      show xss.length-(k+1)<xss.length-k
      omega
   ·
    refine Ze (Fe (Fe (Fs (Ft (Sq hcx [(1001,.to 224)] [6] [12,3,9,10,11] [] [(0≤(Cn.q5v (xss.take k):Int)∧(Cn.q5v (xss.take k):Int)≤1000000)] ?_ (Zs (Sz hcx [] [25,26,27] [0] [] (Zb (Zn [(224,.to 10)] [6,25,26,27] (Lp (X:=Nat) (fun x0=>x0≤xss.length) (fun x0=>([(6,.row 10),(25,.intss xss),(26,.int (xss.length:Int)),(27,.int (x0:Int))],[(10,.row 3 (.ints ((xss.take x0).flatten)))])) (fun x0=>xss.length-x0) (0) ?_ (Ex 27 (congrArg AV.int (show 0=(0:Int)from(by first|rfl|omega|(simp;done)))) Eb) (Hx 10 (congrArg (fun x=>q0d.row 3 (.ints x)) (show[]=(xss.take 0).flatten from(by simp))) Hb) fun k hI=>?_))))))))))
    ·
     refine ap ?_ az
     omega
    ·
     show 0≤xss.length
     omega
    ·
     replace hI:k≤xss.length:=hI
     have hl3:=hl1 k
     have hl4:=hl1 (k+1)
     have hl5:k<xss.length→_:=fun h=>hl2 h
     have hl6:(xss.take k).flatten.length=Cn.q5v (xss.take k):=Cn.x8r _
     refine Sz hcx [] [28] [] [] (Zs (Zj (p:=((k:Int)<(xss.length:Int))) (fun h2=>?_) fun h2=>?_))
     ·
      refine Zk (Ft (Zs (Zb (Sq hcx [] [8] [28] [] [((0:Int)≤(k:Int)∧(k:Int)<(xss.length:Int))] ?_ (Tq hcx [(1002,.to 10)] [6] [8] [10] [((((xss.take k).flatten).length+(xss.getD k []).length)*8≤140737488355328)] ?_ (Fb (Ft (Tq hcx [] [27] [] [] [Fit ((k:Int)+1)] ?_ (Lr (k+1) ?_ ?_ (Ex 27 (congrArg AV.int (show((k:Int)+1)=((k+1):Int)from(by first|rfl|omega|(simp;done)))) Eb) (Hx 10 (congrArg (fun x=>q0d.row 3 (.ints x)) (show(((xss.take k).flatten)++(xss.getD k []))=(xss.take (k+1)).flatten from(by exact Cn.x5w (by omega)))) Hb))))))))))
      ·
       refine ap ?_ az
       omega
      ·
       refine ap ?_ az
       omega
      ·
       refine ap ?_ az
       omega
      ·
       show(k+1)≤xss.length
       omega
      ·
       show xss.length-(k+1)<xss.length-k
       omega
     ·
      exact Ze (Fe (Fe (Fs (Ft (Sz hcx [] [2] [28,6,25,26,27] [] (Zr (Fn [(10,.to 0)] [2] (Rv hcx rfl [true] (q1g (congrArg some (congrArg (fun x=>q0d.row 3 (.ints x)) (show(xss.take k).flatten=xss.flatten from(by rw[show k=xss.length from(by omega),Qd3])))) rfl)))))))))
 ·
  cases hσ
def y8u:Cx:=⟨y2b,[(48,z0k),(91,(orF k5j k5n))],false⟩
theorem y7e:q1c Tryz.prog y8u:=q0s z3c ⟨q2t,(z6o.or z9o),trivial⟩
def y4x:CtF
 |[.im (.ls (.ints l)),.im (.val (.int .i64 x))],[]=>some (l.length≤1000000,.row 0,[some (.row 3 (.ints (l.filter fun z9=> !(z9==x))))])
 |_,_=>none
theorem y6y:q0c Tryz.prog 90 y4x:=by
 refine Sw (cx:=y8u) Tryz.f90 Tryz.func90 ?_
 intro wW wO wβ G0 args os p r outs hσ hp
 have hcx:=y7e
 unfold y4x at hσ
 split at hσ
 ·
  rename_i l x
  cases hσ
  refine⟨by kernel_rfl,?_⟩
  exact Sz hcx [(1000,.frz)] [3] [1] [] (Sq hcx [(1003,.to 208)] [4] [3,0] [] [(l.length≤1000000000000),(l.length≤1000000000000)] (ap (by omega) (ap (by omega) az)) (Zr (Fn [(208,.to 0)] [4] (Ru hcx [true]))))
 ·
  cases hσ
def z6p:Cx:=⟨y2b,[(22,(q1j [.ld (.ints []),.id] q5m)),(54,(q1j [.ld (.ints [])] j7h)),(93,(q1j [.ld (.intss [])] z8z)),(90,(q1j [.ld (.ints []),.id] y4x))],false⟩
theorem j0j:q1c Tryz.prog z6p:=q0s z3c ⟨(q3y.coe [.ld (.ints []),.id] rfl),(z7b.coe [.ld (.ints [])] rfl),(j6h.coe [.ld (.intss [])] rfl),(y6y.coe [.ld (.ints []),.id] rfl),trivial⟩
def z3f:CtF
 |[.im (.ls (.ints a)),.im (.ls (.ints b)),.im (.val (.int .i64 v))],[]=>some (a.length≤100000∧b.length≤100000∧Fit v,.tup [.row 0,.int (Cn.x8j a b v)],[some (.row 3 (.ints (Cn.q3w a b v)))])
 |_,_=>none
theorem j0r:q0c Tryz.prog 53 z3f:=by
 refine Sw (cx:=z6p) Tryz.f53 Tryz.func53 ?_
 intro wW wO wβ G0 args os p r outs hσ hp
 have hcx:=j0j
 unfold z3f at hσ
 split at hσ
 ·
  rename_i a b v
  cases hσ
  refine⟨by kernel_rfl,?_⟩
  obtain⟨hm1,hm2,hm3,hm4⟩:=hp
  have hm5:a.length≤maxLen:=by unfold maxLen;omega
  have hm6:b.length≤maxLen:=by unfold maxLen;omega
  have hm7:[v,-v].length=2:=rfl
  refine Sz hcx [] [] [] [] (Zs (Sq hcx [] [18] [] [] [((!(decide (v<1)))=true→((!(decide (v<1)))=true)),((decide (v<1))=false→(!(decide (v<1)))=true)] ?_ (Zi (b:=(decide (v<1))||(decide (v>65536))) (fun h0=>?_) fun h0=>?_)))
  ·
   refine ap ?_ (ap (by exact q2j) az)
   (first|omega|exact id|exact q2j|exact vcG|exact vcH|(intro _;omega)|exact(fun _ h=>h)|(intro h;simp at h;omega)|(simp only[Qa8,Qb5,Qa3,Qa9,Qb6,Qb1];omega)|(intro h;simp[h];done))
  ·
   try simp only[Qd2,Qc5,Qa2,Qd5,Qd1,Qe7,decide_eq_true_eq,decide_eq_false_iff_not,bne_iff_ne,bne_eq_false_iff_eq,beq_iff_eq,beq_eq_false_iff_ne]at h0
   exact Sz hcx [] [6,7] [18,0,1,2] [] (Zr (Fr (Fw 6 700 3 (.ints []) (Fn [(700,.to 0)] [6,7] (Rv hcx (congrArg AV.tup (q0f rfl (q0f (congrArg AV.int (show 140=(Cn.x8j a b v)from(by exact(Cn.k1h (by omega)).2.symm))) rfl))) [true] (q1g (congrArg some (congrArg (fun x=>q0d.row 3 (.ints x)) (show[]=(Cn.q3w a b v)from(by exact(Cn.k1h (by omega)).1.symm)))) rfl))))))
  ·
   try simp only[Qd2,Qc5,Qa2,Qd5,Qd1,Qe7,decide_eq_true_eq,decide_eq_false_iff_not,bne_iff_ne,bne_eq_false_iff_eq,beq_iff_eq,beq_eq_false_iff_ne]at h0
   have hv1:1≤v:=by omega
   have hv2:v≤65536:=by omega
   refine Zk (Ft (Zs (Sq hcx [] [22,23,24] [18,2] [] [Fit (-v)] ?_ (Zb (Lp (X:=Nat) (fun x0=>x0≤2∧∀j,j<x0→Cn.onB a b ([v,-v].getD j 0)=false) (fun x0=>([(0,.ints a),(1,.ints b),(22,.ints [v,(-v)]),(23,.int ([v,(-v)].length:Int)),(24,.int (x0:Int))],[])) (fun x0=>2-x0) (0) ?_ (Ex 24 (congrArg AV.int (show 0=(0:Int)from(by first|rfl|omega|(simp;done)))) Eb) Hb fun k hI=>?_)))))
   ·
    refine ap ?_ az
    (first|omega|exact id|exact q2j|exact vcG|exact vcH|(intro _;omega)|exact(fun _ h=>h)|(intro h;simp at h;omega)|(simp only[Qa8,Qb5,Qa3,Qa9,Qb6,Qb1];omega)|(intro h;simp[h];done))
   ·
    exact⟨Qc1 _,fun j hj=>by omega⟩
   ·
    try dsimp only at hI
    obtain⟨hk,hok⟩:=hI
    have hX:k<2→-65536≤([v,-v].getD k 0)∧([v,-v].getD k 0)≤65536:=fun h=>Cn.u6w h hv1 hv2
    refine Sz hcx [] [25] [] [] (Zs (Zj (p:=((k:Int)<([v,(-v)].length:Int))) (fun h1=>?_) fun h1=>?_))
    ·
     refine Zk (Ft (Zs (Zb (Sq hcx [] [9] [25] [] [((0:Int)≤(k:Int)∧(k:Int)<([v,(-v)].length:Int))] ?_ (Zs (Sq hcx [] [38] [] [] [(a.length≤maxLen),((!(!(a.contains ([v,(-v)].getD k 0))))=true→((!(!(a.contains ([v,(-v)].getD k 0))))=true)),((!(!(a.contains ([v,(-v)].getD k 0))))=true→Fit (-([v,(-v)].getD k 0))),((!(!(a.contains ([v,(-v)].getD k 0))))=true→((!(!(a.contains ([v,(-v)].getD k 0))))=true)),((!(!(a.contains ([v,(-v)].getD k 0))))=true→((!(!(a.contains ([v,(-v)].getD k 0))))=true)),((!(!(a.contains ([v,(-v)].getD k 0))))=true→(b.length≤maxLen)),((!(!(a.contains ([v,(-v)].getD k 0))))=true→((!(!(a.contains ([v,(-v)].getD k 0))))=true)),((!(a.contains ([v,(-v)].getD k 0)))=false→(!(!(a.contains ([v,(-v)].getD k 0))))=true)] ?_ (Zi (b:=(!(a.contains ([v,(-v)].getD k 0)))||(!(b.contains (-([v,(-v)].getD k 0))))) (fun h2=>?_) fun h2=>?_)))))))
     ·
      refine ap ?_ az
      (first|omega|exact id|exact q2j|exact vcG|exact vcH|(intro _;omega)|exact(fun _ h=>h)|(intro h;simp at h;omega)|(simp only[Qa8,Qb5,Qa3,Qa9,Qb6,Qb1];omega)|(intro h;simp[h];done))
     ·
      refine ap ?_ (ap ?_ (ap ?_ (ap ?_ (ap ?_ (ap ?_ (ap ?_ (ap (by exact q2j) az)))))))<;>
       first|exact hm5|exact(fun _=>hm6)|(first|omega|exact id|exact q2j|exact vcG|exact vcH|(intro _;omega)|exact(fun _ h=>h)|(intro h;simp at h;omega)|(simp only[Qa8,Qb5,Qa3,Qa9,Qb6,Qb1];omega)|(intro h;simp[h];done))
     ·
      have hq:Cn.onB a b ([v,-v].getD k 0)=false:=Cn.u6t h2
      refine Ze (Fe (Fs (Ft (Tq hcx [] [24] [38,9] [] [Fit ((k:Int)+1)] ?_ (Lr (k+1) ?_ ?_ (Ex 24 (congrArg AV.int (show((k:Int)+1)=((k+1):Int)from(by first|rfl|omega|(simp;done)))) Eb) Hb)))))
      ·
       refine ap ?_ az
       (first|omega|exact id|exact q2j|exact vcG|exact vcH|(intro _;omega)|exact(fun _ h=>h)|(intro h;simp at h;omega)|(simp only[Qa8,Qb5,Qa3,Qa9,Qb6,Qb1];omega)|(intro h;simp[h];done))
      ·
       exact⟨by omega,Cn.q4a (f:=fun j=>Cn.onB a b ([v,-v].getD j 0)) hok hq⟩
      ·
       show 2-(k+1)<2-k
       omega
     ·
      have hq:Cn.onB a b ([v,-v].getD k 0)=true:=Cn.u2x h2
      have hf1:=Qd8 (fun y=> !(y==([v,-v].getD k 0))) a
      have hf2:=Qd8 (fun y=> !(y== -([v,-v].getD k 0))) b
      refine Zk (Ft (Sz hcx [] [10] [38,22,23,24] [] (Sq hcx [(1011,.to 251)] [11] [10,9,0,1] [] [(a.length≤1000000),Fit (-([v,(-v)].getD k 0)),(b.length≤1000000),([(a.filter fun z9=> !(z9==([v,(-v)].getD k 0))),(b.filter fun z9=> !(z9==(-([v,(-v)].getD k 0))))].length≤1000000∧Cn.q5v [(a.filter fun z9=> !(z9==([v,(-v)].getD k 0))),(b.filter fun z9=> !(z9==(-([v,(-v)].getD k 0))))]≤1000000),(([(a.filter fun z9=> !(z9==([v,(-v)].getD k 0))),(b.filter fun z9=> !(z9==(-([v,(-v)].getD k 0))))].flatten).length≤1000000)] ?_ (Sz hcx [] [6,7] [11] [] (Zr (Fk (Fr (Fr (Fk (Fr (Fn [(251,.to 0)] [6,7] (Rv hcx (congrArg AV.tup (q0f rfl (q0f (congrArg AV.int (show 0=(Cn.x8j a b v)from(by exact(Cn.k2t (k:=k) (by omega) hv1 hv2 hok hq).2.symm))) rfl))) [true] (q1g (congrArg some (congrArg (fun x=>q0d.row 3 (.ints x)) (show(Cn.q5t ([(a.filter fun z9=> !(z9==([v,(-v)].getD k 0))),(b.filter fun z9=> !(z9==(-([v,(-v)].getD k 0))))].flatten))=(Cn.q3w a b v)from(by rw[Cn.u7h];exact(Cn.k2t (k:=k) (by omega) hv1 hv2 hok hq).1.symm)))) rfl)))))))))))))
      ·
       refine ap ?_ (ap ?_ (ap ?_ (ap ?_ (ap ?_ az))))<;>
        first|(first|omega|exact id|exact q2j|exact vcG|exact vcH|(intro _;omega)|exact(fun _ h=>h)|(intro h;simp at h;omega)|(simp only[Qa8,Qb5,Qa3,Qa9,Qb6,Qb1];omega)|(intro h;simp[h];done))|(simp only[Cn.q5v,Qc6,Qj9,Qq5,List.sum_nil,Qa8,Qb5];omega)|(rw[Cn.u7h,Qa3];omega)
    ·
     exact Ze (Fe (Fe (Fs (Ft (Sz hcx [] [6,7] [25,0,1,22,23,24] [] (Zr (Fw 6 700 3 (.ints []) (Fn [(700,.to 0)] [6,7] (Rv hcx (congrArg AV.tup (q0f rfl (q0f (congrArg AV.int (show 140=(Cn.x8j a b v)from(by exact(Cn.u0g (fun j hj=>hok j (by omega))).2.symm))) rfl))) [true] (q1g (congrArg some (congrArg (fun x=>q0d.row 3 (.ints x)) (show[]=(Cn.q3w a b v)from(by exact(Cn.u0g (fun j hj=>hok j (by omega))).1.symm)))) rfl))))))))))
 ·
  cases hσ
end Go.Proofs.YteikjpbbhopkaaaGreatDoor.En
