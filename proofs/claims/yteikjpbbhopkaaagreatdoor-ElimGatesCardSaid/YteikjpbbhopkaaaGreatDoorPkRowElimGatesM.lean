/- Lemmas and contracts for the row. -/
import Derived.Test.YteikjpbbhopkaaaGreatDoorPkRowElimGatesH
import Derived.Test.YteikjpbbhopkaaaGreatDoorPkRowElimGatesL
set_option linter.unusedVariables false
set_option linter.unusedSimpArgs false
set_option linter.unnecessarySimpa false
namespace Go.Proofs.YteikjpbbhopkaaaGreatDoor
open Go.RowKit Go.Shelf
def rowOf (f:Int→Option Value) (k:Int):Value:=(f k).getD (.slice none 0 0)
def EB (B:Nat) (g:Int→Value) (bt:Nat) (b:Nat):Prop:=(∀k,(g k).ownBlock≠some b)∧b≠bt∧B≤b
structure Sm (B:Nat) (w:World) (p m bw bt:Nat) (g:Int→Value) (rows:Int→List Int) (cs:List (List Int)) (nx:Int) (cv:Value) (top:Int):Prop where
 row:∀k,Own w 3 (g k) ((rows k).map I64)
 dist:∀k k' b,(g k).ownBlock=some b→(g k').ownBlock=some b→k=k'
 far:∀k,(g k).ownBlock≠some bt
 st:St (EB B g bt) w p (.map (some m)) nx cv cs
 hbw:Blk w bw 160 #[.pointer (some ⟨p,0,none⟩)]
 hbt:Blk w bt 3 #[I64 top]
 lp:B≤p
 lt:B≤bt
 lr:∀k b,(g k).ownBlock=some b→B≤b
 lc:∀b,cv.ownBlock=some b→B≤b
structure q2k (B:Nat) (w:World) (p m bw bt:Nat) (f:Int→Option Value) (g:Int→Value) (rows:Int→List Int) (cs:List (List Int)) (nx:Int) (cv:Value) (top:Int):Prop where
 sm:Sm B w p m bw bt g rows cs nx cv top
 map:q6r w m f
 gf:∀k,0≤k→rowOf f k=g k
 lm:B≤m
theorem z6t (w:World):(zeroValue 34).run Tryz.prog w=.ok (.slice none 0 0) w:=by kernel_rfl
theorem y0g (f:Int→Option Value) (k j:Int) (v:Value):rowOf (upd f k v) j=if j=k then v else rowOf f j:=by
 unfold rowOf upd
 split<;>rfl
section
variable {B:Nat} {w w5 w6:World} {p m bw bt:Nat} {f:Int→Option Value} {g:Int→Value} {rows:Int→List Int} {cs:List (List Int)} {nx:Int} {cv:Value} {top:Int} {k:Int} {o:Obj}
theorem Sm.pblk (h:Sm B w p m bw bt g rows cs nx cv top):Blk w p 163 #[.map (some m),cv,I64 nx]:=by
 obtain⟨vs,h1,_⟩:=h.st
 exact h1
theorem Sm.size (h:Sm B w p m bw bt g rows cs nx cv top):B≤w.heap.size:=by have:=h.lt;have:=h.hbt.lt;omega
theorem Sm.grow {gg off n cap:Nat} {zs:List Int} (h:Sm B w p m bw bt g rows cs nx cv top) (hk:Kp (fun b=>(g k).ownBlock=some b) w w5) (hat:(g k).ownBlock=some gg∨w.heap.size≤gg)
 (hown:Own w5 3 (.slice (some ⟨gg,off,none⟩) n cap) (zs.map I64)):
 Sm B w5 p m bw bt (fun j=>if j=k then .slice (some ⟨gg,off,none⟩) n cap else g j) (fun j=>if j=k then zs else rows j) cs nx cv top:=by
 have hgB:∀b,b<w.heap.size→(∀j,(g j).ownBlock≠some b)→b≠gg:=fun b hb hn e=>by
  subst e
  rcases hat with e|e
  ·exact hn k e
  ·omega
 have hblk:∀{b:Nat} {t:TypeId} {ys:Array Value},Blk w b t ys→t≠3→Blk w5 b t ys:=fun hb ht=>hb.kp hk (fun hm=>(h.row k).ne_blk hb (Ne.symm ht) hm)
 refine⟨fun j=>?_,fun j j' b hj hj'=>?_,fun j=>?_,?_,hblk h.hbw (by decide),?_,h.lp,h.lt,fun j b hb=>?_,h.lc⟩
 ·by_cases hjk:j=k
  ·simp only[hjk,if_true]
   exact hown
  ·simp only[hjk,if_false]
   exact(h.row j).kp hk (fun b hb hm=>hjk (h.dist j k b hb hm))
 ·by_cases hjk:j=k<;>by_cases hjk':j'=k
  ·rw[hjk,hjk']
  ·simp only[hjk,if_true]at hj
   simp only[hjk',if_false]at hj'
   have e:gg=b:=by simpa[Value.ownBlock]using hj
   subst e
   rcases hat with e|e
   ·exact absurd (h.dist j' k gg hj' e) hjk'
   ·have:=(h.row j').lt hj'
    omega
  ·simp only[hjk,if_false]at hj
   simp only[hjk',if_true]at hj'
   have e:gg=b:=by simpa[Value.ownBlock]using hj'
   subst e
   rcases hat with e|e
   ·exact absurd (h.dist j k gg hj e) hjk
   ·have:=(h.row j).lt hj
    omega
  ·simp only[hjk,if_false]at hj
   simp only[hjk',if_false]at hj'
   exact h.dist j j' b hj hj'
 ·by_cases hjk:j=k
  ·simp only[hjk,if_true]
   intro e
   have e:gg=bt:=by simpa[Value.ownBlock]using e
   exact hgB bt h.hbt.lt h.far e.symm
  ·simp only[hjk,if_false]
   exact h.far j
 ·obtain⟨vs,h1,h2,h3,h4⟩:=h.st
  refine h.st.kp hk (fun hm=>(h.row k).ne_blk h1 (by decide) hm) (fun b hb hm=>?_) (fun b hb hm=>hb.2.1 k hm) (fun b hb hE=>⟨fun j=>?_,hE.2⟩)
  ·obtain⟨cur,hc⟩:=(h.row k).ty0 hm (by decide)
   exact h2.ne_blk (t:=3) hc (by decide) hb
  ·by_cases hjk:j=k
   ·simp only[hjk,if_true]
    intro e
    have e:gg=b:=by simpa[Value.ownBlock]using e
    exact hgB b hb hE.1 e.symm
   ·simp only[hjk,if_false]
    exact hE.1 j
 ·exact h.hbt.kp hk (fun hm=>h.far k hm)
 ·by_cases hjk:j=k
  ·simp only[hjk,if_true]at hb
   have e:gg=b:=by simpa[Value.ownBlock]using hb
   subst e
   rcases hat with e|e
   ·exact h.lr k gg e
   ·exact Qc0 h.size e
  ·simp only[hjk,if_false]at hb
   exact h.lr j b hb
theorem Sm.mapset (h:Sm B w p m bw bt g rows cs nx cv top) (hm:q6r w m f) (hk:Kp (fun b=>b=m) w w6):Sm B w6 p m bw bt g rows cs nx cv top:=by
 have hmc:∀{e:TypeId} {v:Value} {xs:List Value},Own w e v xs→e≠5→v.ownBlock≠some m:=fun ho he e=>by
  obtain⟨cur,hc⟩:=ho.ty0 e he
  exact hm.ne_blk hc rfl
 obtain⟨vs,h1,h2,h3,h4⟩:=h.st
 refine⟨fun j=>(h.row j).kp hk (fun b hb e=>hmc (h.row j) (by decide) (by rw[hb,e])),h.dist,h.far,?_,h.hbw.kp hk (fun e=>hm.ne_blk h.hbw e.symm),h.hbt.kp hk (fun e=>hm.ne_blk h.hbt e.symm),h.lp,h.lt,h.lr,h.lc⟩
 refine h.st.kp hk (fun e=>hm.ne_blk h1 e.symm) (fun b hb e=>hmc h2 (by decide) (by rw[hb,e])) (fun b hb e=>?_) (fun _ _ h=>h)
 subst e
 obtain⟨⟨cur,hc⟩,_⟩:=hb
 exact hm.ne_blk (t:=3) hc rfl
theorem Sm.setTop (h:Sm B w p m bw bt g rows cs nx cv top) (top':Int):Sm B (w.setCell ⟨bt,0,none⟩ (I64 top')) p m bw bt g rows cs nx cv top':=by
 have hk:Kp (fun b=>b=bt) w (w.setCell ⟨bt,0,none⟩ (I64 top')):=(Kp.refl (fun b=>b=bt) w).setCell (p:=⟨bt,0,none⟩) (fun _=>rfl) _
 obtain⟨vs,h1,h2,h3,h4⟩:=h.st
 refine⟨fun k=>(h.row k).kp hk (fun b hb e=>h.far k (by rw[hb,e])),h.dist,h.far,?_,h.hbw.kp hk (fun e=>h.hbw.ne_ h.hbt (by decide) e),by simpa using h.hbt.set_ 0 (I64 top'),h.lp,h.lt,h.lr,h.lc⟩
 exact h.st.kp hk (fun e=>h1.ne_ h.hbt (by decide) e) (fun b hb e=>h2.ne_blk h.hbt (by decide) (by rw[hb,e])) (fun b hb e=>hb.2.2.1 e) (fun _ _ h=>h)
theorem q2k.kp5 (_h:q2k B w p m bw bt f g rows cs nx cv top) (hg:(w.alloc o).drew.grownBy w5 (g k).ownBlock):Kp (fun b=>(g k).ownBlock=some b) w w5:=
 (((Kp.refl (fun b=>(g k).ownBlock=some b) w).alloc o).drew).grown hg (fun _ e _=>e)
theorem q2k.row_ne (h:q2k B w p m bw bt f g rows cs nx cv top):(g k).ownBlock≠some m:=fun e=>by
 obtain⟨cur,hc⟩:=(h.sm.row k).ty0 e (by decide)
 exact h.map.ne_blk (t:=3) hc rfl
theorem y3c (h:q2k B w p m bw bt f g rows cs nx cv top) (hg:(w.alloc o).drew.grownBy w5 (g k).ownBlock):q6r w5 m f:=h.map.kp (h.kp5 hg) (fun e=>h.row_ne e)
theorem u8a (h:q2k B w p m bw bt f g rows cs nx cv top) (hg:(w.alloc o).drew.grownBy w5 (g k).ownBlock):w5.cell? ⟨bw,0,none⟩=some (.pointer (some ⟨p,0,none⟩)):=
 (h.sm.hbw.kp (h.kp5 hg) (fun e=>(h.sm.row k).ne_blk h.sm.hbw (by decide) e)).cell 0
theorem u6z (h:q2k B w p m bw bt f g rows cs nx cv top) (hg:(w.alloc o).drew.grownBy w5 (g k).ownBlock):w5.cell? ⟨p,0,none⟩=some (.map (some m)):=
 (h.sm.pblk.kp (h.kp5 hg) (fun e=>(h.sm.row k).ne_blk h.sm.pblk (by decide) e)).cell 0
theorem v0n (h:q2k B w p m bw bt f g rows cs nx cv top) (hg:(w.alloc o).drew.grownBy w5 (g k).ownBlock) (hg6:w5.grownBy w6 (some m)):w6.cell? ⟨bw,0,none⟩=some (.pointer (some ⟨p,0,none⟩)):=
 hg6.cell (u8a h hg) (fun e=>h.map.ne_blk h.sm.hbw (by injection e with e;exact e.symm))
theorem v0i (h:q2k B w p m bw bt f g rows cs nx cv top) (hg:(w.alloc o).drew.grownBy w5 (g k).ownBlock) (hg6:w5.grownBy w6 (some m)):w6.cell? ⟨p,0,none⟩=some (.map (some m)):=
 hg6.cell (u6z h hg) (fun e=>h.map.ne_blk h.sm.pblk (by injection e with e;exact e.symm))
theorem k4y {gg off cap:Nat} {x:Int} (h:q2k B w p m bw bt f g rows cs nx cv top) (hg:(w.alloc o).drew.grownBy w5 (g k).ownBlock) (hat:(g k).ownBlock=some gg∨gg=(w.alloc o).drew.heap.size)
 (hown:Own w5 3 (.slice (some ⟨gg,off,none⟩) ((rows k).length+1) cap) ((rows k).map I64++[I64 x])) (hm6:q6r w6 m (upd f k (.slice (some ⟨gg,off,none⟩) ((rows k).length+1) cap))) (hg6:w5.grownBy w6 (some m)):
 q2k B w6 p m bw bt (upd f k (.slice (some ⟨gg,off,none⟩) ((rows k).length+1) cap)) (fun j=>if j=k then .slice (some ⟨gg,off,none⟩) ((rows k).length+1) cap else g j) (z0l rows k x) cs nx cv top∧Below B w w6:=by
 have hk5:=h.kp5 hg
 have hk6:Kp (fun b=>b=m) w5 w6:=(Kp.of_grown hg6).mono (fun b _ e=>by injection e)
 have s5:=h.sm.grow hk5 (hat.imp id (fun e=>by simp at e;omega)) (zs:=rows k++[x]) (by rw[Qd4];exact hown)
 refine⟨⟨s5.mapset (y3c h hg) hk6,hm6,fun j hj=>?_,h.lm⟩,?_⟩
 ·rw[y0g]
  by_cases hjk:j=k
  ·simp[hjk]
  ·simp only[hjk,if_false]
   exact h.gf j hj
 ·have h1:Below B w w5:=hk5.below (fun b hb _ hm=>by have:=h.sm.lr k b hm;omega) h.sm.size
  exact h1.trans (hk6.below (fun b hb _ hm=>by have:=h.lm;omega) (Qc0 h.sm.size hk5.size))
theorem q2k.setTop (h:q2k B w p m bw bt f g rows cs nx cv top) (top':Int):q2k B (w.setCell ⟨bt,0,none⟩ (I64 top')) p m bw bt f g rows cs nx cv top'∧Below B w (w.setCell ⟨bt,0,none⟩ (I64 top')):=by
 have hk:Kp (fun b=>b=bt) w (w.setCell ⟨bt,0,none⟩ (I64 top')):=(Kp.refl (fun b=>b=bt) w).setCell (p:=⟨bt,0,none⟩) (fun _=>rfl) _
 exact⟨⟨h.sm.setTop top',h.map.kp hk (fun e=>h.map.ne_blk h.sm.hbt e),h.gf,h.lm⟩,hk.below (fun b hb _ e=>by have:=h.sm.lt;omega) h.sm.size⟩
end
def u4i (B:Nat) (w:World) (p m bw bt:Nat) (g:Int→Value) (rows:Int→List Int) (cs:List (List Int)) (nx:Int) (cv:Value) (top:Int) (e:Ending) (w':World):Prop:=
 e=.returned (.tuple #[])∧∃f' g',q2k B w' p m bw bt f' g' rows cs nx cv top∧Below B w w'∧g' (-1)=g (-1)
set_option maxRecDepth 100000 in
set_option maxHeartbeats 1600000 in
theorem q7o (B p m bw bt:Nat) (f:Int→Option Value) (g:Int→Value) (rows:Int→List Int) (cs:List (List Int)) (nx:Int) (cv:Value) (top k x:Int) (w:World) (h:q2k B w p m bw bt f g rows cs nx cv top)
 (hk:0≤k) (hk':k≤1000000) (hr:(rows k).length≤1000000000):
 Calls Tryz.prog 125 #[I64 k,I64 x,.pointer (some ⟨bw,0,none⟩),.pointer (some ⟨bt,0,none⟩)] w
  (u4i B w p m bw bt g (z0l rows k x) cs nx cv (max top (k+1))):=by
 obtain⟨i0,hi,hz0,hz1,hz2⟩:=info_parts q6a
 have HI:=Lib.hid (And.intro hi (And.intro hz0 (And.intro hz1 hz2)))
 clear hi hz0 hz1 hz2
 have H:=Lib.hid h
 have hl1:(Instr.lookup 161 (.map (some m)) (.int .i64 k) false).run Tryz.prog w.drew=.ok (g k) w.drew:=by
  rw[←h.gf k hk];exact q9x (w:=w.drew) 161 3 34 (.slice none 0 0) Tryz.underlying161 Tryz.underlying3 z6t h.map k
 have hl2:∀o,(Instr.lookup 161 (.map (some m)) (.int .i64 k) false).run Tryz.prog (w.alloc o).drew=.ok (g k) (w.alloc o).drew:=fun o=>by
  rw[←h.gf k hk];exact q9x (w:=(w.alloc o).drew) 161 3 34 (.slice none 0 0) Tryz.underlying161 Tryz.underlying3 z6t (h.map.kp (((Kp.refl (fun _=>False) w).alloc o).drew) (fun h=>h)) k
 have c1:w.cell? ⟨bw,0,none⟩=some (.pointer (some ⟨p,0,none⟩)):=h.sm.hbw.cell 0
 have c2:w.cell? ⟨p,0,none⟩=some (.map (some m)):=h.sm.pblk.cell 0
 have z1:=World.new_ne w _ c1
 have z2:=World.new_ne w _ c2
 have hlen:((rows k).map I64).length=(rows k).length:=by simp
 have HLn:=Lib.hid hlen
 clear h hlen
 go_enter Tryz.func125,Tryz.ntmps125
 go_wp2_with fail
 go_region_held3 (fun w'=>w'.cell? ⟨bw,0,none⟩=some (.pointer (some ⟨p,0,none⟩))∧w'.cell? ⟨p,0,none⟩=some (.map (some m)))
  (first|go_keep|(exact⟨u8a H.out hgrow,u6z H.out hgrow⟩)|(exact⟨v0n H.out hgrow hg6,v0i H.out hgrow hg6⟩))
  (first|(refine q4g _ (by rfl) _ _ _ (by rfl) 3 i0 _ 8 Tryz.underlying34 HI.out.1 HI.out.2.1 HI.out.2.2.1 HI.out.2.2.2 rfl _ _ (rows k).length HLn.out (by rfl) (((H.out.sm.row k).alloc _).drew) ⟨w.heap.size,0,none⟩ 1 (I64 x) (by rfl) (by simp) rfl (by simp[maxLen];omega) (by omega) ?_;intro gg off cap w5 hown5 hgrow hat5;obtain⟨w6,hr6,hm6,hg6,hz6⟩:=z0t (P:=Tryz.prog) 161 3 34 Tryz.underlying161 Tryz.underlying3 (y3c H.out hgrow) k (.slice (some ⟨gg,off,none⟩) ((rows k).length+1) cap)))
 all_goals
  have hd:=k4y H.out hgrow hat5 hown5 hm6 hg6
  have c5:w6.cell? ⟨bt,0,none⟩=some (I64 top):=hd.1.sm.hbt.cell 0
  have f5:=hd.1.sm.hbt.frozen 0
  have HD:=Lib.hid hd
  clear hd hgrow hat5 hown5 hm6 hg6 hr6 hz6 hl1 hl2 c1 c2 z1 z2
  go_wp2_with fail
  all_goals go_end0
  all_goals first
   |(obtain⟨h1,h2⟩:=HD.out.1.setTop (k+1);exact⟨rfl,_,_,by rw[show max top (k+1)=k+1 by omega];exact h1,HD.out.2.trans h2,if_neg (show¬(-1:Int)=k by omega)⟩)
   |(obtain⟨h1,h2⟩:=HD.out.1.setTop top;exact⟨rfl,_,_,by rw[show max top (k+1)=top by omega];exact h1,HD.out.2.trans h2,if_neg (show¬(-1:Int)=k by omega)⟩)
end Go.Proofs.YteikjpbbhopkaaaGreatDoor
