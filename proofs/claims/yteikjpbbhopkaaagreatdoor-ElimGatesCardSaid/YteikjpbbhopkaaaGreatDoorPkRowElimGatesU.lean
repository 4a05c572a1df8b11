/- Lemmas and contracts for the row. -/
import Derived.Test.YteikjpbbhopkaaaGreatDoorPkRowElimGatesO
import Derived.Test.YteikjpbbhopkaaaGreatDoorPkRowElimGatesT
import Derived.Test.YteikjpbbhopkaaaGreatDoorPkRowElimGatesI
set_option linter.unusedVariables false
set_option linter.unusedSimpArgs false
set_option linter.unnecessarySimpa false
namespace Go.Proofs.YteikjpbbhopkaaaGreatDoor
open Go.RowKit Go.Shelf
theorem k8x (m:Nat) (w:World):Calls Tryz.prog 76 #[.map (some m)] w fun e w'=>e=.returned (.func (.func 104) #[] #[.pointer (some ⟨w.heap.size,0,none⟩)])∧w'=w.alloc (.cells #[.map (some m)] 116):=
 (callsIn_wide (n:=5)).1 (AnyZI.keys_in Tryz.shKeys Fence.wide 5 trivial rfl (some m) w)
theorem sorts (k:Nat):AnyZI.SortsIn Tryz.prog Tryz.shSorted_ren Fence.wide k:=
 ⟨fun blk off cap ss W hH hblk hsz=>callsIn_wide.2 (AnyM.slices_Sort_int Tryz.shSort blk off cap ss W hH hblk hsz),fun p cap W=>callsIn_wide.2 (AnyM.slices_Sort_int_none Tryz.shSort p cap W)⟩
theorem z2w:∀{l:List Int},l.Pairwise (fun a b=>decide (a≤b)=true)→l.Nodup→Inc l
 |[],_,_=>trivial
 |x::t,h,hn=>by
  rw[List.pairwise_cons]at h
  rw[List.nodup_cons]at hn
  refine⟨fun y hy=>?_,z2w h.2 hn.2⟩
  have:=h.1 y hy
  have hne:x≠y:=fun e=>hn.1 (by rw[e];exact hy)
  simp at this
  omega
theorem k1f {es:List MapEntry} (hk:intKeys es) (x:Int):q9c es x≠none↔∃e∈es,e.key=.int .i64 x:=by
 unfold q9c
 constructor
 ·intro h
  cases hf:es.find? (q5k x)with
  |none=>rw[hf]at h;simp at h
  |some e=>
   have h1:=List.mem_of_find?_eq_some hf
   have h2:=List.find?_some hf
   obtain⟨a,ha⟩:=hk e h1
   refine⟨e,h1,?_⟩
   unfold q5k at h2
   rw[ha]at h2⊢
   have h2:a=x:=by simpa using h2
   rw[h2]
 ·rintro⟨e,he,hx⟩
  cases hf:es.find? (q5k x)with
  |none=>
   have:=List.find?_eq_none.1 hf e he
   simp[q5k,hx]at this
  |some e'=>simp
theorem u3g {w:World} {m n:Nat} {f:Int→Option Value} (hm:q6r w m f) {D:DataW Unit} (hD:w.ownsMap Tryz.prog 3 R0 m n D):(Go.intKeys D).Nodup∧(∀x,x∈Go.intKeys D↔f x≠none)∧(Go.intKeys D).length≤n:=by
 obtain⟨es,clock,hb,hk,hf⟩:=hm
 obtain⟨es',clock',hb',F,hs,rfl⟩:=hD
 rw[hb]at hb'
 injection hb' with hb'
 injection hb' with e1 e2
 subst e1 e2
 have hris:=Go.Maps.fit_rising (Go.Maps.int_keyed Tryz.underlying3) F
 have hap:=Go.WideShapes.apart_of_rising _ hris
 have hperm:=Go.WideShapes.sorted_perm (es.toList.map (Go.WideElems.rg Tryz.prog 3 R0))
 have hrg:∀e∈es.toList,∃x,e.key=.int .i64 x∧Go.WideElems.rg Tryz.prog 3 R0 e=(.int .i64 x,.lit (.bool true)):=fun e he=>by
  obtain⟨y,hy⟩:=F.reads e he
  obtain⟨x,hx1,hx2,_⟩:=Go.Maps.keyOf_i64 Tryz.underlying3 (Go.WideElems.rd_key hy)
  refine⟨x,hx1,?_⟩
  unfold Go.WideElems.rg
  rw[hy]
  obtain⟨z,hz1,hz2⟩:=Go.WideElems.rd_val hy
  simp only[R0,Option.some.injEq]at hz1
  rw[←hz1]at hz2
  simp only[Qr0]
  rw[←hx2]
  exact Prod.ext rfl hz2
 refine⟨?_,fun x=>?_,?_⟩
 ·show(List.map (fun p:Lit×DataW Unit=>Go.intOf p.1) _).Nodup
  have hnd:((es.toList.map (Go.WideElems.rg Tryz.prog 3 R0)).map fun p=>Go.intOf p.1).Nodup:=by
   refine List.pairwise_map.2 (hap.imp_of_mem fun{p q} hp hq hne e=>hne ?_)
   obtain⟨e1,he1,rfl⟩:=List.mem_map.1 hp
   obtain⟨e2,he2,rfl⟩:=List.mem_map.1 hq
   obtain⟨a,_,ha⟩:=hrg e1 he1
   obtain⟨b,_,hb⟩:=hrg e2 he2
   rw[ha,hb]at e⊢
   have e:a=b:=e
   rw[e]
  exact(hperm.map _).nodup_iff.2 hnd
 ·rw[←hf x,k1f hk]
  show x∈List.map (fun p:Lit×DataW Unit=>Go.intOf p.1) _↔_
  rw[(hperm.map _).mem_iff,Ql8,Qo0]
  constructor
  ·rintro⟨e,he,hx⟩
   obtain⟨a,ha,hb⟩:=hrg e he
   refine⟨e,he,?_⟩
   simp only[Function.comp,hb,Go.intOf]at hx
   rw[ha,hx]
  ·rintro⟨e,he,hx⟩
   obtain⟨a,ha,hb⟩:=hrg e he
   refine⟨e,he,?_⟩
   simp only[Function.comp,hb,Go.intOf]
   rw[ha]at hx
   injection hx
 ·show(List.map (fun p:Lit×DataW Unit=>Go.intOf p.1) _).length≤n
  rw[Qa9,hperm.length_eq,Qa9]
  simpa using hs
set_option maxHeartbeats 1000000 in
theorem x3a (m n:Nat) (f:Int→Option Value) (w:World) (hm:q6r w m f) (hft:Fits w m n) (hn:n≤100000):
 Calls Tryz.prog 75 #[.func (.func 104) #[] #[.pointer (some ⟨w.heap.size,0,none⟩)]] (w.alloc (.cells #[.map (some m)] 116)) fun e w'=>∃A c vs,e=.returned (.slice A vs.length c)∧Inc vs∧(∀v,v∈vs↔f v≠none)∧vs.length≤n∧
  Own w' 3 (.slice A vs.length c) (vs.map I64)∧Below (w.alloc (.cells #[.map (some m)] 116)).heap.size (w.alloc (.cells #[.map (some m)] 116)) w':=by
 obtain⟨D,hD⟩:=hft
 obtain⟨d1,d2,d3⟩:=u3g hm hD
 have hbl:=hD.lt
 have hsz:Go.Maps.size D=(Go.intKeys D).length:=by
  obtain⟨es,clock,_,_,_,rfl⟩:=hD
  simp[Go.Maps.size,Go.intKeys]
 have hseq:SeqGives Fence.wide 2 Tryz.prog 104 #[.pointer (some ⟨w.heap.size,0,none⟩)] encZ (fun ss=>ss.Perm (Go.intKeys D)) (Go.Maps.size D) (w.alloc (.cells #[.map (some m)] 116)):=
  AnyZI.keys_gives (ρ:=Tryz.shKeys_ren) {Tryz.shKeys with} Fence.wide _ trivial rfl (by omega) w.heap.size m n D _ (by simp) (by simp) (hD.alloc _)
 refine((callsIn_wide (n:=5)).1 (AnyZI.sorted_in Tryz.shSorted Fence.wide 5 trivial trivial trivial trivial rfl (by omega) (sorts _) (enters_of Tryz.func103 (by kernel_rfl) rfl) 104 #[.pointer (some ⟨w.heap.size,0,none⟩)] trivial (enters_of Tryz.func104 (by kernel_rfl) rfl) _ _ (by unfold maxLen;omega) (by omega) _ hseq)).mono ?_
 rintro e w' ⟨v,ss,rfl,hS,hrow,_,hb⟩
 have hown:=Own.of_row hrow
 obtain⟨A,c,ev,_,_⟩:=(show Own w' 3 v ((ss.mergeSort (fun x y=>decide (x≤y))).map I64)from hown).rd
 have hpm:=List.mergeSort_perm ss (fun x y=>decide (x≤y))
 refine⟨A,c,ss.mergeSort (fun x y=>decide (x≤y)),by rw[ev],z2w (List.pairwise_mergeSort (fun a b c h1 h2=>by simp at*;omega) (fun a b=>by simp;omega) ss) ((hpm.trans hS).nodup_iff.2 d1),fun x=>by rw[(hpm.trans hS).mem_iff];exact d2 x,by rw[(hpm.trans hS).length_eq];exact d3,by have:=(show Own w' 3 v ((ss.mergeSort (fun x y=>decide (x≤y))).map I64)from hown);rw[ev]at this;exact this,hb⟩
end Go.Proofs.YteikjpbbhopkaaaGreatDoor
namespace Go.Proofs.YteikjpbbhopkaaaGreatDoor
open Go.RowKit Go.Shelf
attribute [local go_sem ↓] Go.wp_at_zero Go.wp_at_succ
structure z0a (B:Nat) (wo w:World) (p:Nat) (x0 x1 cv lv:Value) (C L:List Int) (b:Int):Prop where
 k:Kp (fun k=>k=p∨B≤k) wo w
 blk:Blk w p 123 #[x0,x1,I64 b]
 c:Own w 3 cv (C.map I64)
 l:Own w 3 lv (L.map I64)
 apart:∀g,cv.ownBlock=some g→lv.ownBlock≠some g
 wB:B≤w.heap.size
 cB:∀g,cv.ownBlock=some g→B≤g
 lB:∀g,lv.ownBlock=some g→B≤g
section
variable {B:Nat} {wo w w':World} {p:Nat} {x0 x1 cv lv:Value} {C L:List Int} {b:Int}
theorem z0a.c_ne (h:z0a B wo w p x0 x1 cv lv C L b):cv.ownBlock≠some p:=h.c.ne_blk h.blk (by decide)
theorem z0a.l_ne (h:z0a B wo w p x0 x1 cv lv C L b):lv.ownBlock≠some p:=h.l.ne_blk h.blk (by decide)
theorem z0a.s (h:z0a B wo w p x0 x1 cv lv C L b):w.cell? ⟨p,0,none⟩=some x0∧w.cell? ⟨p,1,none⟩=some x1:=⟨h.blk.cell 0,h.blk.cell 1⟩
theorem z0a.drew (h:z0a B wo w p x0 x1 cv lv C L b):z0a B wo w.drew p x0 x1 cv lv C L b:=⟨h.k.drew,h.blk,h.c,h.l,h.apart,h.wB,h.cB,h.lB⟩
theorem z0a.alloc (h:z0a B wo w p x0 x1 cv lv C L b) (o:Obj):z0a B wo (w.alloc o) p x0 x1 cv lv C L b:=⟨h.k.alloc o,h.blk.alloc o,h.c.alloc o,h.l.alloc o,h.apart,Qc0 h.wB (by simp),h.cB,h.lB⟩
theorem z0a.below (h:z0a B wo w p x0 x1 cv lv C L b) (hb:Below w.heap.size w w'):z0a B wo w' p x0 x1 cv lv C L b:=
 ⟨h.k.trans (Kp.of_below hb) (fun k hk hm=>absurd hm (by have:=h.k.size;omega)),(hb.block p h.blk.lt).trans h.blk,h.c.keep fun g hg=>hb.block g (h.c.lt hg),h.l.keep fun g hg=>hb.block g (h.l.lt hg),h.apart,Qc0 h.wB hb.size,h.cB,h.lB⟩
theorem z0a.pushC (h:z0a B wo w p x0 x1 cv lv C L b) {g off n cap:Nat} {c:Int} (ho:Own w' 3 (.slice (some ⟨g,off,none⟩) n cap) (C.map I64++[I64 c])) (hg:w.grownBy w' cv.ownBlock)
 (hat:cv.ownBlock=some g∨g=w.heap.size):z0a B wo w' p x0 x1 (.slice (some ⟨g,off,none⟩) n cap) lv (C++[c]) L b:=by
 have hB:=h.wB
 have hne:∀g,lv.ownBlock=some g→cv.ownBlock≠some g:=fun g h1 h2=>h.apart g h2 h1
 refine⟨h.k.grown hg (fun g e _=>.inr (h.cB g e)),h.blk.grown hg (Ne.symm h.c_ne),by simpa using ho,h.l.grown hg ?_,?_,Qc0 hB hg.size,?_,h.lB⟩
 ·cases hl:lv.ownBlock with
  |none=>exact .inl rfl
  |some x=>exact .inr (fun e=>hne x hl e.symm)
 ·intro g' hg' hl
  simp[Value.ownBlock]at hg'
  subst hg'
  rcases hat with h1|h1
  ·exact h.apart g h1 hl
  ·have:=h.l.lt hl
   omega
 ·intro g' hg'
  simp[Value.ownBlock]at hg'
  subst hg'
  rcases hat with h1|h1
  ·exact h.cB g h1
  ·omega
theorem z0a.pushL (h:z0a B wo w p x0 x1 cv lv C L b) {g off n cap:Nat} {c:Int} (ho:Own w' 3 (.slice (some ⟨g,off,none⟩) n cap) (L.map I64++[I64 c])) (hg:w.grownBy w' lv.ownBlock)
 (hat:lv.ownBlock=some g∨g=w.heap.size):z0a B wo w' p x0 x1 cv (.slice (some ⟨g,off,none⟩) n cap) C (L++[c]) b:=by
 have hB:=h.wB
 refine⟨h.k.grown hg (fun g e _=>.inr (h.lB g e)),h.blk.grown hg (Ne.symm h.l_ne),h.c.grown hg ?_,by simpa using ho,?_,Qc0 hB hg.size,h.cB,?_⟩
 ·cases hl:cv.ownBlock with
  |none=>exact .inl rfl
  |some x=>exact .inr (fun e=>h.apart x hl e.symm)
 ·intro g' hg' hl
  simp[Value.ownBlock]at hl
  subst hl
  rcases hat with h1|h1
  ·exact h.apart g hg' h1
  ·have:=h.c.lt hg'
   omega
 ·intro g' hg'
  simp[Value.ownBlock]at hg'
  subst hg'
  rcases hat with h1|h1
  ·exact h.lB g h1
  ·omega
theorem z0a.set0 (h:z0a B wo w p x0 x1 cv lv C L b) (u:Value):z0a B wo (w.setCell ⟨p,0,none⟩ u) p u x1 cv lv C L b:=
 ⟨h.k.setCell (fun _=>.inl rfl) _,h.blk.set_ 0 u,h.c.far h.c_ne u,h.l.far h.l_ne u,h.apart,by simpa[World.setCell]using h.wB,h.cB,h.lB⟩
theorem z0a.set1 (h:z0a B wo w p x0 x1 cv lv C L b) (u:Value):z0a B wo (w.setCell ⟨p,1,none⟩ u) p x0 u cv lv C L b:=
 ⟨h.k.setCell (fun _=>.inl rfl) _,h.blk.set_ 1 u,h.c.far h.c_ne u,h.l.far h.l_ne u,h.apart,by simpa[World.setCell]using h.wB,h.cB,h.lB⟩
theorem z0a.set2 (h:z0a B wo w p x0 x1 cv lv C L b) (u:Int):z0a B wo (w.setCell ⟨p,2,none⟩ (I64 u)) p x0 x1 cv lv C L u:=
 ⟨h.k.setCell (fun _=>.inl rfl) _,h.blk.set_ 2 _,h.c.far h.c_ne _,h.l.far h.l_ne _,h.apart,by simpa[World.setCell]using h.wB,h.cB,h.lB⟩
end
abbrev Bld (B:Nat) (wo w:World) (p:Nat) (cv lv:Value) (C L:List Int) (b:Int):Prop:=z0a B wo w p cv lv cv lv C L b
set_option maxRecDepth 100000 in
set_option maxHeartbeats 6400000 in
theorem x1k (B p:Nat) (cv lv:Value) (C L:List Int) (b c x:Int) (wo w:World) (h:Bld B wo w p cv lv C L b) (hl1:C.length≤1000000) (hl2:L.length≤1000000):
 Calls Tryz.prog 78 #[.pointer (some ⟨p,0,none⟩),I64 c,I64 x] w fun e w'=>e=.returned (.tuple #[])∧∃cv' lv',Bld B wo w' p cv' lv' (C++[c]) (L++[x]) b:=by
 obtain⟨i0,hi,hz0,hz1,hz2⟩:=info_parts q6a
 have HI:=Lib.hid (And.intro hi (And.intro hz0 (And.intro hz1 hz2)))
 have H:=Lib.hid h
 have HB0:=Lib.hid h.drew
 have HL1:=Lib.hid (show(C.map I64).length=C.length by simp)
 have HL2:=Lib.hid (show(L.map I64).length=L.length by simp)
 have hS:=h.drew.s
 clear h hi hz0 hz1 hz2
 go_enter Tryz.func78,Tryz.ntmps78
 go_wp2_with fail
 refine wp_region_noPanic ?_
 refine y6v (k:=21) (S:=fun w'=>w'.cell? ⟨p,0,none⟩=some cv∧w'.cell? ⟨p,1,none⟩=some lv) (by kernel_rfl) ?_
 refine q0k (i:=0) (v:=?_) (by simp only[Qa5,Qa4];rfl) (by kernel_rfl) (by kernel_rfl) (by kernel_rfl) rfl (fun _ _ _ h=>h) (Or.inl ⟨by rfl,?_⟩) (fun _=>hS) ?_
 rotate_left
 ·intro w hSw;clear hSw;go_simp;try (with_reducible rfl)
 (try simp only[Act.put,Qa6,Qb2,Qb3])
 refine q0k (i:=1) (v:=?_) (by simp only[Qa5,Qa7,Qa4];rfl) (by kernel_rfl) (by kernel_rfl) (by kernel_rfl) rfl (fun _ _ _ h=>h) (Or.inl ⟨by rfl,?_⟩) (fun _=>hS) ?_
 rotate_left
 ·intro w hSw;clear hSw;go_simp;try (with_reducible rfl)
 (try simp only[Act.put,Qa6,Qb2,Qb3])
 refine q0k (i:=2) (v:=?_) (by simp only[Qa5,Qa7,Qa4];rfl) (by kernel_rfl) (by kernel_rfl) (by kernel_rfl) rfl (fun _ _ _ h=>h) (Or.inl ⟨by rfl,?_⟩) (fun _=>hS) ?_
 rotate_left
 ·intro w hSw;clear hSw;go_simp;try (with_reducible rfl)
 (try simp only[Act.put,Qa6,Qb2,Qb3])
 refine q0k (i:=3) (v:=?_) (by simp only[Qa5,Qa7,Qa4];rfl) (by kernel_rfl) (by kernel_rfl) (by kernel_rfl) rfl (fun _ _ _ h=>h) (Or.inl ⟨by rfl,?_⟩) (fun _=>hS) ?_
 rotate_left
 ·intro w hSw;clear hSw;go_simp;try (with_reducible rfl)
 (try simp only[Act.put,Qa6,Qb2,Qb3])
 refine q0k (i:=4) (v:=?_) (by simp only[Qa5,Qa7,Qa4];rfl) (by kernel_rfl) (by kernel_rfl) (by kernel_rfl) rfl (fun _ _ _ h=>h) (Or.inl ⟨by rfl,?_⟩) (fun _=>hS) ?_
 rotate_left
 ·intro w hSw;clear hSw;go_simp;try (with_reducible rfl)
 (try simp only[Act.put,Qa6,Qb2,Qb3])
 refine q0k (i:=5) (v:=?_) (by simp only[Qa5,Qa7,Qa4];rfl) (by kernel_rfl) (by kernel_rfl) (by kernel_rfl) rfl (fun _ _ _ h=>h) (Or.inl ⟨by rfl,?_⟩) (fun _=>hS) ?_
 rotate_left
 ·intro w hSw;clear hSw;go_simp;try (with_reducible rfl)
 (try simp only[Act.put,Qa6,Qb2,Qb3])
 refine q0k (i:=7) (v:=?_) (by simp only[Qa5,Qa7,Qa4];rfl) (by kernel_rfl) (by kernel_rfl) (by kernel_rfl) rfl (fun _ _ _ h=>h) (Or.inl ⟨by rfl,?_⟩) (fun _=>hS) ?_
 rotate_left
 ·intro w hSw;clear hSw;go_simp;try (with_reducible rfl)
 (try simp only[Act.put,Qa6,Qb2,Qb3])
 refine q0k (i:=10) (v:=?_) (by simp only[Qa5,Qa7,Qa4];rfl) (by kernel_rfl) (by kernel_rfl) (by kernel_rfl) rfl (fun _ _ _ h=>h) (Or.inl ⟨by rfl,?_⟩) (fun _=>hS) ?_
 rotate_left
 ·intro w hSw;clear hSw;go_simp;try (with_reducible rfl)
 (try simp only[Act.put,Qa6,Qb2,Qb3])
 refine q0k (i:=11) (v:=?_) (by simp only[Qa5,Qa7,Qa4];rfl) (by kernel_rfl) (by kernel_rfl) (by kernel_rfl) rfl (fun _ _ _ h=>h) (Or.inl ⟨by rfl,?_⟩) (fun _=>hS) ?_
 rotate_left
 ·intro w hSw;clear hSw;go_simp;try (with_reducible rfl)
 (try simp only[Act.put,Qa6,Qb2,Qb3])
 refine q0k (i:=12) (v:=?_) (by simp only[Qa5,Qa7,Qa4];rfl) (by kernel_rfl) (by kernel_rfl) (by kernel_rfl) rfl (fun _ _ _ h=>h) (Or.inl ⟨by rfl,?_⟩) (fun _=>hS) ?_
 rotate_left
 ·intro w hSw;clear hSw;go_simp;try (with_reducible rfl)
 (try simp only[Act.put,Qa6,Qb2,Qb3])
 refine q0k (i:=13) (v:=?_) (by simp only[Qa5,Qa7,Qa4];rfl) (by kernel_rfl) (by kernel_rfl) (by kernel_rfl) rfl (fun _ _ _ h=>h) (Or.inl ⟨by rfl,?_⟩) (fun _=>hS) ?_
 rotate_left
 ·intro w hSw;clear hSw;go_simp;try (with_reducible rfl)
 (try simp only[Act.put,Qa6,Qb2,Qb3])
 refine q0k (i:=15) (v:=?_) (by simp only[Qa5,Qa7,Qa4];rfl) (by kernel_rfl) (by kernel_rfl) (by kernel_rfl) rfl (fun _ _ _ h=>h) (Or.inl ⟨by rfl,?_⟩) (fun _=>hS) ?_
 rotate_left
 ·intro w hSw;clear hSw;go_simp;try (with_reducible rfl)
 (try simp only[Act.put,Qa6,Qb2,Qb3])
 refine z8m (i:=6) (v:=?_) (by simp only[Qa5,Qa7,Qa4];rfl) (by kernel_rfl) (by kernel_rfl) (by kernel_rfl) rfl (by kernel_rfl) (by kernel_rfl) (fun _ _ _ h=>h) (Or.inl ⟨by rfl,?_⟩) hS ?_
 rotate_left
 ·intro w hSw;(try dsimp only at hSw);go_simp;try (with_reducible rfl)
 (try simp only[Act.put,Qa6,Qb2,Qb3])
 refine z8m (i:=14) (v:=?_) (by simp only[Qa5,Qa7,Qa4];rfl) (by kernel_rfl) (by kernel_rfl) (by kernel_rfl) rfl (by kernel_rfl) (by kernel_rfl) (fun _ _ _ h=>h) (Or.inl ⟨by rfl,?_⟩) hS ?_
 rotate_left
 ·intro w hSw;(try dsimp only at hSw);go_simp;try (with_reducible rfl)
 (try simp only[Act.put,Qa6,Qb2,Qb3])
 refine q1b (rs:=[8,16]) (by kernel_rfl) (by simp) ?_
 refine q0i.cons (by simp only[Qa5,Qa7,Qa4];rfl) (fun K hK=>?_) ?_
 ·go_simp
  have N1:=Lib.hid (show Blk ((w.drew).alloc (.cells #[I64 c] 3)) (w.heap.size) 3 #[I64 c]from by have:=Blk.new (w.drew) 3 #[I64 c];simpa using this)
  have HB1:=Lib.hid (HB0.out.alloc (.cells #[I64 c] 3))
  have hS:=HB1.out.s
  refine hK.out _ _ hS (fun _=>?_)
  clear hK K
  (try simp only[Act.put,Qa6,Qb2,Qb3])
  refine q1b (rs:=[9,16]) (by kernel_rfl) (by simp) ?_
  refine q0i.cons (by simp only[Qa5,Qa7,Qa4];rfl) (fun K hK=>?_) ?_
  ·refine q4g ((w.drew).alloc (.cells #[I64 c] 3)) (by rfl) (.tmp 12) (.tmp 14) _ (by rfl) 3 i0 _ 8 Tryz.underlying34 HI.out.1 HI.out.2.1 HI.out.2.2.1 HI.out.2.2.2 rfl _ (C.map I64) C.length HL1.out (by rfl) HB1.out.c _ 1 (I64 c) (by rfl) (by first|exact N1.out.cell 0|simpa using N1.out.cell 0) rfl (by simp[maxLen];omega) (by omega) ?_
   intro gC oC capC wC hownC hgC hatC
   have HB2:=Lib.hid (HB1.out.pushC hownC hgC hatC)
   have hS:=HB2.out.s
   clear hownC hgC hatC
   refine hK.out _ _ hS (fun _=>?_)
   clear hK K
   (try simp only[Act.put,Qa6,Qb2,Qb3])
   refine q1b (rs:=[16]) (by kernel_rfl) (by simp) ?_
   refine q0i.cons (by simp only[Qa5,Qa7,Qa4];rfl) (fun K hK=>?_) ?_
   ·go_simp
    have N2:=Lib.hid (show Blk (wC.alloc (.cells #[I64 x] 3)) (wC.heap.size) 3 #[I64 x]from by have:=Blk.new wC 3 #[I64 x];simpa using this)
    have HB3:=Lib.hid (HB2.out.alloc (.cells #[I64 x] 3))
    have hS:=HB3.out.s
    refine hK.out _ _ hS (fun _=>?_)
    clear hK K
    (try simp only[Act.put,Qa6,Qb2,Qb3])
    refine q1b (rs:=[17]) (by kernel_rfl) (by simp) ?_
    refine q0i.cons (by simp only[Qa5,Qa7,Qa4];rfl) (fun K hK=>?_) ?_
    ·refine q4g (wC.alloc (.cells #[I64 x] 3)) (by rfl) (.tmp 20) (.tmp 22) _ (by rfl) 3 i0 _ 8 Tryz.underlying34 HI.out.1 HI.out.2.1 HI.out.2.2.1 HI.out.2.2.2 rfl _ (L.map I64) L.length HL2.out (by rfl) HB3.out.l _ 1 (I64 x) (by rfl) (by first|exact N2.out.cell 0|simpa using N2.out.cell 0) rfl (by simp[maxLen];omega) (by omega) ?_
     intro gL oL capL wL hownL hgL hatL
     have HB4:=Lib.hid (HB3.out.pushL hownL hgL hatL)
     have hS:=HB4.out.s
     clear hownL hgL hatL
     refine hK.out _ _ hS (fun _=>?_)
     clear hK K
     (try simp only[Act.put,Qa6,Qb2,Qb3])
     refine q0k (i:=18) (v:=?_) (by simp only[Qa5,Qa7,Qa4];rfl) (by kernel_rfl) (by kernel_rfl) (by kernel_rfl) rfl (fun _ _ _ h=>h) (Or.inl ⟨by rfl,?_⟩) (fun _=>hS) ?_
     rotate_left
     ·intro w hSw;clear hSw;go_simp;try (with_reducible rfl)
     (try simp only[Act.put,Qa6,Qb2,Qb3])
     refine q0k (i:=19) (v:=?_) (by simp only[Qa5,Qa7,Qa4];rfl) (by kernel_rfl) (by kernel_rfl) (by kernel_rfl) rfl (fun _ _ _ h=>h) (Or.inl ⟨by rfl,?_⟩) (fun _=>hS) ?_
     rotate_left
     ·intro w hSw;clear hSw;go_simp;try (with_reducible rfl)
     (try simp only[Act.put,Qa6,Qb2,Qb3])
     refine q0k (i:=20) (v:=?_) (by simp only[Qa5,Qa7,Qa4];rfl) (by kernel_rfl) (by kernel_rfl) (by kernel_rfl) rfl (fun _ _ _ h=>h) (Or.inl ⟨by rfl,?_⟩) (fun _=>hS) ?_
     rotate_left
     ·intro w hSw;clear hSw;go_simp;try (with_reducible rfl)
     (try simp only[Act.put,Qa6,Qb2,Qb3])
     refine q1b (rs:=[21]) (by kernel_rfl) (by simp) ?_
     refine q0i.late (by simp only[Qa5,Qa7,Qa4];rfl) (by kernel_rfl) (fun K hK=>?_) ?_
     ·have f0:wL.frozen? ⟨p,0,none⟩=false:=HB4.out.blk.frozen 0
      have d0:=HB4.out.s.1
      go_simp
      have HB5:=Lib.hid (HB4.out.set0 (.slice (some ⟨gC,oC,none⟩) (C.length+1) capC))
      refine hK.out _ _ ?_
      clear hK K
      (try simp only[Act.put,Qa6,Qb2,Qb3])
      refine q0k (i:=22) (v:=?_) (by simp only[Qa5,Qa7,Qa4];rfl) (by kernel_rfl) (by kernel_rfl) (by kernel_rfl) rfl (fun _ _ _ h=>h) (Or.inl ⟨by rfl,?_⟩) (by intro h0;cases h0) ?_
      rotate_left
      ·intro w hSw;clear hSw;go_simp;try (with_reducible rfl)
      (try simp only[Act.put,Qa6,Qb2,Qb3])
      refine q0k (i:=23) (v:=?_) (by simp only[Qa5,Qa7,Qa4];rfl) (by kernel_rfl) (by kernel_rfl) (by kernel_rfl) rfl (fun _ _ _ h=>h) (Or.inl ⟨by rfl,?_⟩) (by intro h0;cases h0) ?_
      rotate_left
      ·intro w hSw;clear hSw;go_simp;try (with_reducible rfl)
      (try simp only[Act.put,Qa6,Qb2,Qb3])
      refine q0k (i:=24) (v:=?_) (by simp only[Qa5,Qa7,Qa4];rfl) (by kernel_rfl) (by kernel_rfl) (by kernel_rfl) rfl (fun _ _ _ h=>h) (Or.inl ⟨by rfl,?_⟩) (by intro h0;cases h0) ?_
      rotate_left
      ·intro w hSw;clear hSw;go_simp;try (with_reducible rfl)
      (try simp only[Act.put,Qa6,Qb2,Qb3])
      refine q1b (rs:=[25]) (by kernel_rfl) (by simp) ?_
      refine q0i.late (by simp only[Qa5,Qa7,Qa4];rfl) (by kernel_rfl) (fun K hK=>?_) ?_
      ·have f1:=HB4.out.blk.frozen 1
       have d1:=HB4.out.s.2
       go_simp
       have HB6:=Lib.hid (HB5.out.set1 (.slice (some ⟨gL,oL,none⟩) (L.length+1) capL))
       refine hK.out _ _ ?_
       clear hK K
       (try simp only[Act.put,Qa6,Qb2,Qb3])
       refine z1m (by kernel_rfl) (NoPanic.normal ?_) _
       go_end0
       exact⟨rfl,_,_,HB6.out⟩
      exact q0i.nil
     exact q0i.nil
    exact q0i.nil
   exact q0i.nil
  refine q0i.cons (by simp only[Qa5,Qa7,Qa4];rfl) (fun K hK=>?_) ?_
  ·go_simp
   have N2:=Lib.hid (show Blk (((w.drew).alloc (.cells #[I64 c] 3)).alloc (.cells #[I64 x] 3)) (w.heap.size+1) 3 #[I64 x]from by have:=Blk.new ((w.drew).alloc (.cells #[I64 c] 3)) 3 #[I64 x];simpa using this)
   have HB2:=Lib.hid (HB1.out.alloc (.cells #[I64 x] 3))
   have hS:=HB2.out.s
   have N1:=Lib.hid (N1.out.alloc (.cells #[I64 x] 3))
   refine hK.out _ _ hS (fun _=>?_)
   clear hK K
   (try simp only[Act.put,Qa6,Qb2,Qb3])
   refine q1b (rs:=[9]) (by kernel_rfl) (by simp) ?_
   refine q0i.cons (by simp only[Qa5,Qa7,Qa4];rfl) (fun K hK=>?_) ?_
   ·refine q4g (((w.drew).alloc (.cells #[I64 c] 3)).alloc (.cells #[I64 x] 3)) (by rfl) (.tmp 12) (.tmp 14) _ (by rfl) 3 i0 _ 8 Tryz.underlying34 HI.out.1 HI.out.2.1 HI.out.2.2.1 HI.out.2.2.2 rfl _ (C.map I64) C.length HL1.out (by rfl) HB2.out.c _ 1 (I64 c) (by rfl) (by first|exact N1.out.cell 0|simpa using N1.out.cell 0) rfl (by simp[maxLen];omega) (by omega) ?_
    intro gC oC capC wC hownC hgC hatC
    have HB3:=Lib.hid (HB2.out.pushC hownC hgC hatC)
    have hS:=HB3.out.s
    have N2:=Lib.hid (N2.out.grown hgC (fun e=>by have:=H.out.c.lt e.symm;omega))
    clear hownC hgC hatC
    refine hK.out _ _ hS (fun _=>?_)
    clear hK K
    (try simp only[Act.put,Qa6,Qb2,Qb3])
    refine q1b (rs:=[17]) (by kernel_rfl) (by simp) ?_
    refine q0i.cons (by simp only[Qa5,Qa7,Qa4];rfl) (fun K hK=>?_) ?_
    ·refine q4g (wC) (by rfl) (.tmp 20) (.tmp 22) _ (by rfl) 3 i0 _ 8 Tryz.underlying34 HI.out.1 HI.out.2.1 HI.out.2.2.1 HI.out.2.2.2 rfl _ (L.map I64) L.length HL2.out (by rfl) HB3.out.l _ 1 (I64 x) (by rfl) (by first|exact N2.out.cell 0|simpa using N2.out.cell 0) rfl (by simp[maxLen];omega) (by omega) ?_
     intro gL oL capL wL hownL hgL hatL
     have HB4:=Lib.hid (HB3.out.pushL hownL hgL hatL)
     have hS:=HB4.out.s
     clear hownL hgL hatL
     refine hK.out _ _ hS (fun _=>?_)
     clear hK K
     (try simp only[Act.put,Qa6,Qb2,Qb3])
     refine q0k (i:=18) (v:=?_) (by simp only[Qa5,Qa7,Qa4];rfl) (by kernel_rfl) (by kernel_rfl) (by kernel_rfl) rfl (fun _ _ _ h=>h) (Or.inl ⟨by rfl,?_⟩) (fun _=>hS) ?_
     rotate_left
     ·intro w hSw;clear hSw;go_simp;try (with_reducible rfl)
     (try simp only[Act.put,Qa6,Qb2,Qb3])
     refine q0k (i:=19) (v:=?_) (by simp only[Qa5,Qa7,Qa4];rfl) (by kernel_rfl) (by kernel_rfl) (by kernel_rfl) rfl (fun _ _ _ h=>h) (Or.inl ⟨by rfl,?_⟩) (fun _=>hS) ?_
     rotate_left
     ·intro w hSw;clear hSw;go_simp;try (with_reducible rfl)
     (try simp only[Act.put,Qa6,Qb2,Qb3])
     refine q0k (i:=20) (v:=?_) (by simp only[Qa5,Qa7,Qa4];rfl) (by kernel_rfl) (by kernel_rfl) (by kernel_rfl) rfl (fun _ _ _ h=>h) (Or.inl ⟨by rfl,?_⟩) (fun _=>hS) ?_
     rotate_left
     ·intro w hSw;clear hSw;go_simp;try (with_reducible rfl)
     (try simp only[Act.put,Qa6,Qb2,Qb3])
     refine q1b (rs:=[21]) (by kernel_rfl) (by simp) ?_
     refine q0i.late (by simp only[Qa5,Qa7,Qa4];rfl) (by kernel_rfl) (fun K hK=>?_) ?_
     ·have f0:wL.frozen? ⟨p,0,none⟩=false:=HB4.out.blk.frozen 0
      have d0:=HB4.out.s.1
      go_simp
      have HB5:=Lib.hid (HB4.out.set0 (.slice (some ⟨gC,oC,none⟩) (C.length+1) capC))
      refine hK.out _ _ ?_
      clear hK K
      (try simp only[Act.put,Qa6,Qb2,Qb3])
      refine q0k (i:=22) (v:=?_) (by simp only[Qa5,Qa7,Qa4];rfl) (by kernel_rfl) (by kernel_rfl) (by kernel_rfl) rfl (fun _ _ _ h=>h) (Or.inl ⟨by rfl,?_⟩) (by intro h0;cases h0) ?_
      rotate_left
      ·intro w hSw;clear hSw;go_simp;try (with_reducible rfl)
      (try simp only[Act.put,Qa6,Qb2,Qb3])
      refine q0k (i:=23) (v:=?_) (by simp only[Qa5,Qa7,Qa4];rfl) (by kernel_rfl) (by kernel_rfl) (by kernel_rfl) rfl (fun _ _ _ h=>h) (Or.inl ⟨by rfl,?_⟩) (by intro h0;cases h0) ?_
      rotate_left
      ·intro w hSw;clear hSw;go_simp;try (with_reducible rfl)
      (try simp only[Act.put,Qa6,Qb2,Qb3])
      refine q0k (i:=24) (v:=?_) (by simp only[Qa5,Qa7,Qa4];rfl) (by kernel_rfl) (by kernel_rfl) (by kernel_rfl) rfl (fun _ _ _ h=>h) (Or.inl ⟨by rfl,?_⟩) (by intro h0;cases h0) ?_
      rotate_left
      ·intro w hSw;clear hSw;go_simp;try (with_reducible rfl)
      (try simp only[Act.put,Qa6,Qb2,Qb3])
      refine q1b (rs:=[25]) (by kernel_rfl) (by simp) ?_
      refine q0i.late (by simp only[Qa5,Qa7,Qa4];rfl) (by kernel_rfl) (fun K hK=>?_) ?_
      ·have f1:=HB4.out.blk.frozen 1
       have d1:=HB4.out.s.2
       go_simp
       have HB6:=Lib.hid (HB5.out.set1 (.slice (some ⟨gL,oL,none⟩) (L.length+1) capL))
       refine hK.out _ _ ?_
       clear hK K
       (try simp only[Act.put,Qa6,Qb2,Qb3])
       refine z1m (by kernel_rfl) (NoPanic.normal ?_) _
       go_end0
       exact⟨rfl,_,_,HB6.out⟩
      exact q0i.nil
     exact q0i.nil
    exact q0i.nil
   exact q0i.nil
  exact q0i.nil
 refine q0i.cons (by simp only[Qa5,Qa7,Qa4];rfl) (fun K hK=>?_) ?_
 ·go_simp
  have N2:=Lib.hid (show Blk ((w.drew).alloc (.cells #[I64 x] 3)) (w.heap.size) 3 #[I64 x]from by have:=Blk.new (w.drew) 3 #[I64 x];simpa using this)
  have HB1:=Lib.hid (HB0.out.alloc (.cells #[I64 x] 3))
  have hS:=HB1.out.s
  refine hK.out _ _ hS (fun _=>?_)
  clear hK K
  (try simp only[Act.put,Qa6,Qb2,Qb3])
  refine q1b (rs:=[8]) (by kernel_rfl) (by simp) ?_
  refine q0i.cons (by simp only[Qa5,Qa7,Qa4];rfl) (fun K hK=>?_) ?_
  ·go_simp
   have N1:=Lib.hid (show Blk (((w.drew).alloc (.cells #[I64 x] 3)).alloc (.cells #[I64 c] 3)) (w.heap.size+1) 3 #[I64 c]from by have:=Blk.new ((w.drew).alloc (.cells #[I64 x] 3)) 3 #[I64 c];simpa using this)
   have HB2:=Lib.hid (HB1.out.alloc (.cells #[I64 c] 3))
   have hS:=HB2.out.s
   have N2:=Lib.hid (N2.out.alloc (.cells #[I64 c] 3))
   refine hK.out _ _ hS (fun _=>?_)
   clear hK K
   (try simp only[Act.put,Qa6,Qb2,Qb3])
   refine q1b (rs:=[9]) (by kernel_rfl) (by simp) ?_
   refine q0i.cons (by simp only[Qa5,Qa7,Qa4];rfl) (fun K hK=>?_) ?_
   ·refine q4g (((w.drew).alloc (.cells #[I64 x] 3)).alloc (.cells #[I64 c] 3)) (by rfl) (.tmp 12) (.tmp 14) _ (by rfl) 3 i0 _ 8 Tryz.underlying34 HI.out.1 HI.out.2.1 HI.out.2.2.1 HI.out.2.2.2 rfl _ (C.map I64) C.length HL1.out (by rfl) HB2.out.c _ 1 (I64 c) (by rfl) (by first|exact N1.out.cell 0|simpa using N1.out.cell 0) rfl (by simp[maxLen];omega) (by omega) ?_
    intro gC oC capC wC hownC hgC hatC
    have HB3:=Lib.hid (HB2.out.pushC hownC hgC hatC)
    have hS:=HB3.out.s
    have N2:=Lib.hid (N2.out.grown hgC (fun e=>by have:=H.out.c.lt e.symm;omega))
    clear hownC hgC hatC
    refine hK.out _ _ hS (fun _=>?_)
    clear hK K
    (try simp only[Act.put,Qa6,Qb2,Qb3])
    refine q1b (rs:=[17]) (by kernel_rfl) (by simp) ?_
    refine q0i.cons (by simp only[Qa5,Qa7,Qa4];rfl) (fun K hK=>?_) ?_
    ·refine q4g (wC) (by rfl) (.tmp 20) (.tmp 22) _ (by rfl) 3 i0 _ 8 Tryz.underlying34 HI.out.1 HI.out.2.1 HI.out.2.2.1 HI.out.2.2.2 rfl _ (L.map I64) L.length HL2.out (by rfl) HB3.out.l _ 1 (I64 x) (by rfl) (by first|exact N2.out.cell 0|simpa using N2.out.cell 0) rfl (by simp[maxLen];omega) (by omega) ?_
     intro gL oL capL wL hownL hgL hatL
     have HB4:=Lib.hid (HB3.out.pushL hownL hgL hatL)
     have hS:=HB4.out.s
     clear hownL hgL hatL
     refine hK.out _ _ hS (fun _=>?_)
     clear hK K
     (try simp only[Act.put,Qa6,Qb2,Qb3])
     refine q0k (i:=18) (v:=?_) (by simp only[Qa5,Qa7,Qa4];rfl) (by kernel_rfl) (by kernel_rfl) (by kernel_rfl) rfl (fun _ _ _ h=>h) (Or.inl ⟨by rfl,?_⟩) (fun _=>hS) ?_
     rotate_left
     ·intro w hSw;clear hSw;go_simp;try (with_reducible rfl)
     (try simp only[Act.put,Qa6,Qb2,Qb3])
     refine q0k (i:=19) (v:=?_) (by simp only[Qa5,Qa7,Qa4];rfl) (by kernel_rfl) (by kernel_rfl) (by kernel_rfl) rfl (fun _ _ _ h=>h) (Or.inl ⟨by rfl,?_⟩) (fun _=>hS) ?_
     rotate_left
     ·intro w hSw;clear hSw;go_simp;try (with_reducible rfl)
     (try simp only[Act.put,Qa6,Qb2,Qb3])
     refine q0k (i:=20) (v:=?_) (by simp only[Qa5,Qa7,Qa4];rfl) (by kernel_rfl) (by kernel_rfl) (by kernel_rfl) rfl (fun _ _ _ h=>h) (Or.inl ⟨by rfl,?_⟩) (fun _=>hS) ?_
     rotate_left
     ·intro w hSw;clear hSw;go_simp;try (with_reducible rfl)
     (try simp only[Act.put,Qa6,Qb2,Qb3])
     refine q1b (rs:=[21]) (by kernel_rfl) (by simp) ?_
     refine q0i.late (by simp only[Qa5,Qa7,Qa4];rfl) (by kernel_rfl) (fun K hK=>?_) ?_
     ·have f0:wL.frozen? ⟨p,0,none⟩=false:=HB4.out.blk.frozen 0
      have d0:=HB4.out.s.1
      go_simp
      have HB5:=Lib.hid (HB4.out.set0 (.slice (some ⟨gC,oC,none⟩) (C.length+1) capC))
      refine hK.out _ _ ?_
      clear hK K
      (try simp only[Act.put,Qa6,Qb2,Qb3])
      refine q0k (i:=22) (v:=?_) (by simp only[Qa5,Qa7,Qa4];rfl) (by kernel_rfl) (by kernel_rfl) (by kernel_rfl) rfl (fun _ _ _ h=>h) (Or.inl ⟨by rfl,?_⟩) (by intro h0;cases h0) ?_
      rotate_left
      ·intro w hSw;clear hSw;go_simp;try (with_reducible rfl)
      (try simp only[Act.put,Qa6,Qb2,Qb3])
      refine q0k (i:=23) (v:=?_) (by simp only[Qa5,Qa7,Qa4];rfl) (by kernel_rfl) (by kernel_rfl) (by kernel_rfl) rfl (fun _ _ _ h=>h) (Or.inl ⟨by rfl,?_⟩) (by intro h0;cases h0) ?_
      rotate_left
      ·intro w hSw;clear hSw;go_simp;try (with_reducible rfl)
      (try simp only[Act.put,Qa6,Qb2,Qb3])
      refine q0k (i:=24) (v:=?_) (by simp only[Qa5,Qa7,Qa4];rfl) (by kernel_rfl) (by kernel_rfl) (by kernel_rfl) rfl (fun _ _ _ h=>h) (Or.inl ⟨by rfl,?_⟩) (by intro h0;cases h0) ?_
      rotate_left
      ·intro w hSw;clear hSw;go_simp;try (with_reducible rfl)
      (try simp only[Act.put,Qa6,Qb2,Qb3])
      refine q1b (rs:=[25]) (by kernel_rfl) (by simp) ?_
      refine q0i.late (by simp only[Qa5,Qa7,Qa4];rfl) (by kernel_rfl) (fun K hK=>?_) ?_
      ·have f1:=HB4.out.blk.frozen 1
       have d1:=HB4.out.s.2
       go_simp
       have HB6:=Lib.hid (HB5.out.set1 (.slice (some ⟨gL,oL,none⟩) (L.length+1) capL))
       refine hK.out _ _ ?_
       clear hK K
       (try simp only[Act.put,Qa6,Qb2,Qb3])
       refine z1m (by kernel_rfl) (NoPanic.normal ?_) _
       go_end0
       exact⟨rfl,_,_,HB6.out⟩
      exact q0i.nil
     exact q0i.nil
    exact q0i.nil
   exact q0i.nil
  exact q0i.nil
 exact q0i.nil
end Go.Proofs.YteikjpbbhopkaaaGreatDoor
namespace Go.Proofs.YteikjpbbhopkaaaGreatDoor
open Go.RowKit Go.Shelf
attribute [local go_sem ↓] Go.wp_at_zero Go.wp_at_succ
theorem k5q (n c x:Int) (w:World) (h1: -1000000000000000000≤n) (h2:n≤1000000000000000000) (h3: -1000000000000000000≤c) (h4:c≤1000000000000000000):
 Calls Tryz.prog 107 #[I64 n,I64 c,I64 x] w fun e w'=>e=.returned (I64 (n+c))∧w=w':=by
 have hw:IntKind.i64.wrap (n+c)=n+c:=IntWalk.i64_in _ (by omega)
 go_enter Tryz.func107,Tryz.ntmps107
 go_wp2_with fail
 go_ret
 exact⟨rfl,rfl⟩
theorem z9s (x:Int) (w:World):Calls Tryz.prog 105 #[I64 x] w fun e w'=>e=.returned (.bool false)∧w=w':=by
 go_enter Tryz.func105,Tryz.ntmps105
 go_wp2_with fail
 go_ret
 exact⟨by simp,rfl⟩
theorem y6h (x y:Int) (w:World):Calls Tryz.prog 77 #[I64 x,I64 y] w fun e w'=>e=.returned (I64 (if x<y then-1 else if y<x then 1 else 0))∧w=w':=by
 rcases Qq3 x y with h|h|h
 ·rw[if_pos h]
  go_enter Tryz.func77,Tryz.ntmps77
  go_wp2_with (first|(go_at_call 105;refine(z9s _ _).mono ?_;rintro e w1 ⟨rfl,rfl⟩))
  go_ret
  exact⟨rfl,rfl⟩
 ·subst h
  rw[if_neg (Qn1 _),if_neg (Qn1 _)]
  have h1:¬x<x:=Qn1 _
  go_enter Tryz.func77,Tryz.ntmps77
  go_wp2_with (first|(go_at_call 105;refine(z9s _ _).mono ?_;rintro e w1 ⟨rfl,rfl⟩))
  go_ret
  exact⟨rfl,rfl⟩
 ·have h1:¬x<y:=by omega
  rw[if_neg h1,if_pos h]
  go_enter Tryz.func77,Tryz.ntmps77
  go_wp2_with (first|(go_at_call 105;refine(z9s _ _).mono ?_;rintro e w1 ⟨rfl,rfl⟩))
  go_ret
  exact⟨rfl,rfl⟩
theorem x5u (q:Nat) (n b:Int) (w:World) (hq:w.cell? ⟨q,0,none⟩=some (I64 b)):Calls Tryz.prog 81 #[I64 n,.pointer (some ⟨q,0,none⟩)] w fun e w'=>e=.returned (I64 (min n b))∧w=w':=by
 go_enter Tryz.func81,Tryz.ntmps81
 go_wp2_with fail
 go_ret
 exact⟨rfl,rfl⟩
theorem y2p (z:List (Int×Int)) (n:Int):z5g (fun n c _=>n+c) z n=n+q1e z:=by
 induction z generalizing n with
 |nil=>simp[z5g,q1e]
 |cons q t ih=>
  have:=ih (n+q.1)
  unfold z5g at this⊢
  rw[Qe2,this,q1e]
  omega
theorem u5o (B p:Nat) (cv lv:Value) (C L:List Int) (b:Int) (wo w:World) (h:Bld B wo w p cv lv C L b) (hl:C.length=L.length) (hm:L.length≤1000000)
 (hb:∀k,-1000000000000000*100≤q1e ((C.zip L).take k)∧q1e ((C.zip L).take k)≤1000000000000000*100) (hc:∀c∈C,-1000000000000000000≤c∧c≤1000000000000000000):
 Calls Tryz.prog 79 #[.pointer (some ⟨p,0,none⟩)] w fun e w'=>e=.returned (I64 (q1e (C.zip L)))∧Below w.heap.size w w':=by
 obtain⟨A,cA,ec,_,hrc⟩:=h.c.rd
 obtain⟨A',cA',el,_,hrl⟩:=h.l.rd
 subst ec el
 have hA:j0q w A A' ⟨C,L,b⟩:=⟨hrc.mono fun g hg=>h.c.lt hg,hrl.mono fun g hg=>h.l.lt hg,by unfold maxLen;simp only;omega,by unfold maxLen;simp only;omega⟩
 have hst:Steps 107 [] (fun n c _=>n+c) ⟨C,L,b⟩ 0 w:=fun k h1 h2 wx _=>by
  have h5:=hb k
  have h6:=hc _ (Qc7 h1)
  rw[y2p]
  refine(k5q (0+q1e ((C.zip L).take k)) C[k] _ wx (by omega) (by omega) h6.1 h6.2).mono ?_
  rintro e w' ⟨rfl,rfl⟩
  exact⟨rfl,Below.refl _ _⟩
 have HS:=Lib.hid hst
 have HA:=Lib.hid hA
 have HE:=Lib.hid (show z5g (fun n c _=>n+c) (C.zip L) 0=q1e (C.zip L) by rw[y2p];omega)
 have c0:w.cell? ⟨p,0,none⟩=some (.slice A C.length cA):=h.blk.cell 0
 have c1:w.cell? ⟨p,1,none⟩=some (.slice A' L.length cA'):=h.blk.cell 1
 have c2:w.cell? ⟨p,2,none⟩=some (I64 b):=h.blk.cell 2
 have HL:=Lib.hid hl
 clear h hst hA hb hc hrc hrl hl
 go_enter Tryz.func79,Tryz.ntmps79
 go_wp2_with fail
 refine(k1e 107 [] (fun n c _=>n+c) A A' cA cA' ⟨C,L,b⟩ 0 w (enters_of Tryz.func107 (by kernel_rfl) rfl) HS.out HA.out HL.out).mono ?_
 rintro e w1 ⟨rfl,b1⟩
 have B1:=Lib.hid b1
 clear b1
 go_wp2_with fail
 go_ret
 exact⟨by rw[←HE.out];rfl,B1.out⟩
theorem z0a.setC {B:Nat} {wo w:World} {p:Nat} {x0 x1 lv:Value} {g off n cap:Nat} {C L:List Int} {b:Int} (h:z0a B wo w p x0 x1 (.slice (some ⟨g,off,none⟩) n cap) lv C L b) {i:Nat} (hi:i<C.length) (u:Int):
 z0a B wo (w.setCell ⟨g,off+i,none⟩ (I64 u)) p x0 x1 (.slice (some ⟨g,off,none⟩) n cap) lv (C.set i u) L b:=by
 have hg:(Value.slice (some ⟨g,off,none⟩) n cap).ownBlock=some g:=rfl
 refine⟨h.k.setCell (fun _=>.inr (h.cB g hg)) _,h.blk.far (fun e=>h.c_ne (by rw[hg,e])) _,?_,h.l.far (h.apart g hg) _,h.apart,by simpa[World.setCell]using h.wB,h.cB,h.lB⟩
 have:=h.c.set_ (i:=i) (by simpa using hi) (I64 u)
 rw[List.map_set]
 exact this
def x5l (t:Int→Int) (C:List Int) (i:Nat):List Int:=(C.take i).map t++C.drop i
theorem z6g (t:Int→Int) (C:List Int) (i:Nat):(x5l t C i).length=C.length:=by simp[x5l];omega
theorem k2a (t:Int→Int) (C:List Int):x5l t C 0=C:=by simp[x5l]
theorem k4k (t:Int→Int) (C:List Int):x5l t C C.length=C.map t:=by simp[x5l]
theorem u5l (t:Int→Int) (C:List Int) (i:Nat) (h:i<C.length):(x5l t C i)[i]'(by rw[z6g];exact h)=C[i]:=by
 simp only[x5l]
 rw[Qh9 (by simp;omega),Qq2]
 congr 1
 simp
 omega
theorem k5h (t:Int→Int) (C:List Int) (i:Nat) (h:i<C.length):(x5l t C i).set i (t C[i])=x5l t C (i+1):=by
 have e:C.drop i=C[i]::C.drop (i+1):=Qm5 h
 simp only[x5l]
 have h0:i-((C.take i).map t).length=0:=by simp;omega
 rw[List.set_append_right _ _ (by simp;omega),h0,Qb9 h,e,Qb2,Qd4]
 simp only[Qc6,Qj9,Qc4,Qc9,Qg8]
set_option maxRecDepth 100000 in
set_option maxHeartbeats 1600000 in
theorem k8o (f:Nat) (lb:List Value) (t:Int→Int) (B p:Nat) (cv lv:Value) (C L:List Int) (b:Int) (wo w:World) (h:Bld B wo w p cv lv C L b) (hm:C.length≤1000000) (heg:∀(args:Array Value) (w:World),(callFunc f args).run Tryz.prog w=.ok (.enter f args) w)
 (ht:∀c,(c∈C∨c=b)→∀wx,Kp (fun k=>k=p∨cv.ownBlock=some k) w wx→Calls Tryz.prog f (I64 c::lb).toArray wx fun e w'=>e=.returned (I64 (t c))∧wx=w'):
 Calls Tryz.prog 80 #[.pointer (some ⟨p,0,none⟩),.func (.func f) #[] lb.toArray] w fun e w'=>e=.returned (.tuple #[])∧Bld B wo w' p cv lv (C.map t) L (t b)∧Kp (fun k=>k=p∨cv.ownBlock=some k) w w':=by
 obtain⟨A,cA,ec,_,_⟩:=h.c.rd
 subst ec
 have H:=Lib.hid h
 have HT:=Lib.hid ht
 have c0:w.cell? ⟨p,0,none⟩=some (.slice A C.length cA):=h.blk.cell 0
 clear h ht
 go_enter Tryz.func80,Tryz.ntmps80
 go_wp2_with fail
 clear c0
 go_loopw [4,5,12] (fun _ _ iv wr=>∃i:Nat,iv=.int .i64 i∧i≤C.length∧Bld B wo wr p (.slice A C.length cA) lv (x5l t C i) L b∧Kp (fun k=>k=p∨(Value.slice A C.length cA).ownBlock=some k) w wr) (fun _ _ iv _=>C.length-(intOf iv).toNat)
 case atStart=>exact⟨0,rfl,Qc1 _,by rw[k2a];exact H.out,Kp.refl _ _⟩
 case round=>
  obtain⟨i,rfl,hi,hbl,hkp⟩:=hrel
  have HB:=Lib.hid hbl
  have HK:=Lib.hid hkp
  clear hbl hkp
  by_cases hlt:i<C.length
  ·obtain⟨g,off,eA⟩:=HB.out.c.addr (by omega)
   subst eA
   have hc:wr.cell? ⟨g,off+i,none⟩=some (I64 C[i]):=by
    have:=HB.out.c.at_ (i:=i) (by simp[z6g];exact hlt)
    simp only[Qg3,u5l t C i hlt]at this
    exact this.1
   have hf:wr.frozen? ⟨g,off+i,none⟩=false:=by
    have:=HB.out.c.at_ (i:=i) (by simp[z6g];exact hlt)
    exact this.2
   have hcall:=HT.out C[i] (.inl (Qc7 hlt)) wr.drew HK.out.drew
   have HN:=Lib.hid (HB.out.drew.setC (i:=i) (by rw[z6g];exact hlt) (t C[i]))
   rw[k5h t C i hlt]at HN
   have c0:wr.cell? ⟨p,0,none⟩=some (.slice (some ⟨g,off,none⟩) C.length cA):=HB.out.blk.cell 0
   have hpg:g≠p:=fun e=>HB.out.c_ne (by rw[←e];rfl)
   have hpg2:p≠g:=Ne.symm hpg
   have HK2:=Lib.hid (HK.out.drew.setCell (p:=⟨g,off+i,none⟩) (fun _=>.inr rfl) (I64 (t C[i])))
   generalize C[i]=x at hc hcall HN HK2
   have HC:=Lib.hid hcall
   clear hcall
   go_wp2_with fail
   go_region_held3 (fun w'=>w'.cell? ⟨p,0,none⟩=some (.slice (some ⟨g,off,none⟩) C.length cA)) (go_keep) (first|(refine HC.out.mono ?_;rintro e w3 ⟨rfl,rfl⟩))
   go_wp2_with fail
   go_roundw
   case rel=>exact⟨i+1,by go_num,by omega,HN.out,HK2.out⟩
   case measure=>simp[intOf];omega
  ·obtain rfl:i=C.length:=by omega
   have c2:wr.cell? ⟨p,2,none⟩=some (I64 b):=HB.out.blk.cell 2
   have f2:wr.frozen? ⟨p,2,none⟩=false:=HB.out.blk.frozen 2
   have hcall:=HT.out b (.inr rfl) wr HK.out
   have HC:=Lib.hid hcall
   clear hcall
   go_wp2_with fail
   refine HC.out.mono ?_
   rintro e w3 ⟨rfl,rfl⟩
   go_wp2_with fail
   go_end0
   refine⟨rfl,?_,HK.out.setCell (fun _=>.inl rfl) _⟩
   have:=HB.out.set2 (t b)
   rw[k4k]at this
   exact this
end Go.Proofs.YteikjpbbhopkaaaGreatDoor
