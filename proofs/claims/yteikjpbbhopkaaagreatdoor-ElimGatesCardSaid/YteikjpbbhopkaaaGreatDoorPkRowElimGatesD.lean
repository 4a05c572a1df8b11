/- Lemmas and contracts for the row. -/
import Derived.Test.YteikjpbbhopkaaaGreatDoorProg
import Derived.Test.YteikjpbbhopkaaaGreatDoorPkRowElimGatesB
import Derived.Test.YteikjpbbhopkaaaGreatDoorPkRowElimGatesA
import Derived.BigQuiet
import Derived.Lib.Hide
import Derived.Lib.TrailingZeros
set_option linter.unusedVariables false
set_option linter.unusedSimpArgs false
set_option linter.unnecessarySimpa false
namespace Go.Proofs.YteikjpbbhopkaaaGreatDoor
open Go.RowKit
theorem Own.ty0 {w:World} {e:TypeId} {v:Value} {xs:List Value} (h:Own w e v xs) {g:Nat} (hg:v.ownBlock=some g) (he:e≠5):∃cur,w.heap[g]? =some (.cells cur e (0,0)):=by
 obtain⟨cur,hc⟩:=h.type hg
 exact⟨cur,hc.plain he⟩
theorem q6a:(Tryz.prog.info? 3).map (fun i=>(i.zero,i.size,i.bytes))=some (some (.int .i64 0),1,8):=by kernel_rfl
theorem j9q:(Tryz.prog.info? 34).map (fun i=>(i.zero,i.size,i.bytes))=some (some (.slice none 0 0),1,24):=by kernel_rfl
def T3 (E:Nat→Prop) (w:World) (b:Nat):Prop:=(∃cur,w.heap[b]? =some (.cells cur 3 (0,0)))∧E b
def Cl (E:Nat→Prop) (w:World) (v:Value) (xs:List Int):Prop:=∃A c,v=.slice A xs.length c∧xs.length≤c∧Rd I64 (T3 E w) w A xs
theorem T3.lt {E:Nat→Prop} {w:World} {b:Nat} (h:T3 E w b):b<w.heap.size:=by
 obtain⟨⟨cur,h⟩,_⟩:=h
 exact(Array.getElem?_eq_some_iff.1 h).1
theorem T3.ne_blk {E:Nat→Prop} {w:World} {b g:Nat} {t:TypeId} {cs:Array Value} (h:T3 E w b) (hg:Blk w g t cs) (ht:t≠3):b≠g:=by
 obtain⟨⟨cur,h⟩,_⟩:=h
 exact Blk.ne_ (t:=3) h hg (Ne.symm ht)
theorem T3.ne_own {E:Nat→Prop} {w:World} {b:Nat} {e:TypeId} {v:Value} {xs:List Value} (h:T3 E w b) (hg:Own w e v xs) (ht:e≠3):v.ownBlock≠some b:=by
 obtain⟨⟨cur,h⟩,_⟩:=h
 exact hg.ne_blk (t:=3) h ht
theorem Cl.kp {E E' M:Nat→Prop} {w w':World} {v:Value} {xs:List Int} (h:Cl E w v xs) (hk:Kp M w w') (hm:∀b,T3 E w b→¬M b) (hE:∀b,b<w.heap.size→E b→E' b):Cl E' w' v xs:=by
 obtain⟨A,c,h1,h2,h3⟩:=h
 refine⟨A,c,h1,h2,h3.keep (fun b hb=>hk.block b hb.lt (hm b hb)) (fun b hb=>?_)⟩
 have hlt:=hb.lt
 have hb0:=hb
 obtain⟨⟨cur,hb⟩,he⟩:=hb
 exact⟨⟨cur,(hk.block b hlt (hm b hb0)).trans hb⟩,hE b hlt he⟩
theorem Cl.mono {E E':Nat→Prop} {w:World} {v:Value} {xs:List Int} (h:Cl E w v xs) (hE:∀b,b<w.heap.size→E b→E' b):Cl E' w v xs:=
 h.kp (Kp.refl (fun _=>False) w) (fun _ _ h=>h) hE
theorem Cl.of_blk {E:Nat→Prop} {w:World} {g:Nat} {xs:List Int} {ys:Array Value} (h:Blk w g 3 ys) (hy:ys=(xs.map I64).toArray) (hE:E g):Cl E w (.slice (some ⟨g,0,none⟩) xs.length xs.length) xs:=by
 refine⟨_,_,rfl,Qb8 _,fun _=>⟨_,_,rfl,⟨⟨ys,h⟩,hE⟩,fun j hj=>?_⟩⟩
 rw[h.cell,hy]
 simp[hj]
def St (E:Nat→Prop) (w:World) (p:Nat) (mv:Value) (nx:Int) (cv:Value) (cs:List (List Int)):Prop:=
 ∃vs,Blk w p 163 #[mv,cv,I64 nx]∧Own w 34 cv vs∧vs.length=cs.length∧∀(j:Nat) v xs,vs[j]? =some v→cs[j]? =some xs→Cl E w v xs
def Stp (p:Nat) (w:World) (cv:Value) (w':World) (cv':Value):Prop:=
 Kp (fun k=>k=p∨cv.ownBlock=some k) w w'∧∀g,cv'.ownBlock=some g→cv.ownBlock=some g∨w.heap.size≤g
theorem Stp.refl (p:Nat) (w:World) (cv:Value):Stp p w cv w cv:=⟨Kp.refl _ _,fun _ h=>.inl h⟩
theorem Stp.trans {p:Nat} {w w' w'':World} {cv cv' cv'':Value} (h:Stp p w cv w' cv') (h':Stp p w' cv' w'' cv''):Stp p w cv w'' cv'':=by
 refine⟨h.1.trans h'.1 fun k hk hm=>?_,fun g hg=>?_⟩
 ·rcases hm with rfl|hm
  ·exact .inl rfl
  ·rcases h.2 k hm with h2|h2
   ·exact .inr h2
   ·omega
 ·rcases h'.2 g hg with h2|h2
  ·exact h.2 g h2
  ·exact .inr (Qc0 h.1.size h2)
theorem Stp.drewN {p:Nat} {w w':World} {cv cv':Value} (h:Stp p w cv w' cv') (n:Nat):Stp p w cv (w'.drewN n) cv':=⟨h.1.drewN n,h.2⟩
theorem Stp.alloc {p:Nat} {w w':World} {cv cv':Value} (h:Stp p w cv w' cv') (o:Obj):Stp p w cv (w'.alloc o) cv':=⟨h.1.alloc o,h.2⟩
theorem Stp.size {p:Nat} {w w':World} {cv cv':Value} (h:Stp p w cv w' cv'):w.heap.size≤w'.heap.size:=h.1.size
theorem St.kp {E E' M:Nat→Prop} {w w':World} {p:Nat} {mv:Value} {nx:Int} {cv:Value} {cs:List (List Int)} (h:St E w p mv nx cv cs) (hk:Kp M w w') (hp:¬M p) (hc:∀g,cv.ownBlock=some g→¬M g)
 (hm:∀b,T3 E w b→¬M b) (hE:∀b,b<w.heap.size→E b→E' b):St E' w' p mv nx cv cs:=by
 obtain⟨vs,h1,h2,h3,h4⟩:=h
 exact⟨vs,h1.kp hk hp,h2.kp hk hc,h3,fun j v xs hv hx=>(h4 j v xs hv hx).kp hk hm hE⟩
theorem St.alloc {E:Nat→Prop} {w:World} {p:Nat} {mv:Value} {nx:Int} {cv:Value} {cs:List (List Int)} (h:St E w p mv nx cv cs) (o:Obj):St E (w.alloc o) p mv nx cv cs:=
 h.kp ((Kp.refl (fun _=>False) w).alloc o) (fun h=>h) (fun _ _ h=>h) (fun _ _ h=>h) (fun _ _ h=>h)
theorem St.drewN {E:Nat→Prop} {w:World} {p:Nat} {mv:Value} {nx:Int} {cv:Value} {cs:List (List Int)} (h:St E w p mv nx cv cs) (n:Nat):St E (w.drewN n) p mv nx cv cs:=
 h.kp ((Kp.refl (fun _=>False) w).drewN n) (fun h=>h) (fun _ _ h=>h) (fun _ _ h=>h) (fun _ _ h=>h)
set_option maxHeartbeats 400000 in
theorem k2s (p:Nat) (mv cv:Value) (nx:Int) (w:World) (hp:Blk w p 163 #[mv,cv,I64 nx]) (h0:0≤nx) (h1:nx≤1000000000):
 Calls Tryz.prog 152 #[.pointer (some ⟨p,0,none⟩)] w fun e w'=>e=.returned (I64 nx)∧w'=w.setCell ⟨p,2,none⟩ (I64 (nx+1)):=by
 have c2:=hp.cell 2
 have f2:=hp.frozen 2
 simp only[Qa5,Qa7,Qa4]at c2
 have HP:=Lib.hid hp
 clear hp
 go_enter Tryz.func152,Tryz.ntmps152
 go_wp2
 go_ret
 exact⟨by simp,rfl⟩
set_option maxHeartbeats 400000 in
theorem u5x (p:Nat) (mv cv:Value) (nx:Int) (A:Option Addr) (n c:Nat) (vs:List Value) (w:World) (hp:Blk w p 163 #[mv,cv,I64 nx]) (hown:Own w 34 cv vs) (hn:vs.length<1000000000000):
 Calls Tryz.prog 154 #[.pointer (some ⟨p,0,none⟩),.slice A n c] w fun e w'=>e=.returned (.tuple #[])∧∃cv',Blk w' p 163 #[mv,cv',I64 nx]∧Own w' 34 cv' (vs++[.slice A n c])∧
  Stp p w cv w' cv':=by
 obtain⟨i0,hi,hz0,hz1,hz2⟩:=info_parts j9q
 have c1:=hp.cell 1
 have hlt:=hp.lt
 have hpne:=hown.ne_blk hp (by decide)
 simp only[Qa5,Qa7,Qa4]at c1
 have HP:=Lib.hid hp
 have HO:=Lib.hid hown
 have HN:=Lib.hid hpne
 have HI:=Lib.hid (And.intro hi (And.intro hz0 (And.intro hz1 hz2)))
 clear hp hown hpne hi hz0 hz1 hz2
 go_enter Tryz.func154,Tryz.ntmps154
 go_wp2_with (at_builtin;refine q3t _ rfl _ _ 31 rfl 34 i0 (.slice none 0 0) 24 Tryz.underlying31 HI.out.1 HI.out.2.1 HI.out.2.2.1 HI.out.2.2.2 rfl _ vs vs.length rfl rfl (HO.out.alloc _) ⟨w.heap.size,0,none⟩ 1 (.slice A n c) rfl ?c1 rfl ?c2 ?c3 ?_)
 case c1=>simp
 case c2=>unfold maxLen;omega
 case c3=>omega
 intro g off cap w1 hown1 hg1 hat
 have hp1:Blk w1 p 163 #[mv,cv,I64 nx]:=(HP.out.alloc _).grown hg1 (fun e=>HN.out e.symm)
 have c1':=hp1.cell 1
 have f1':=hp1.frozen 1
 simp only[Qa5,Qa7,Qa4]at c1'
 have HP1:=Lib.hid hp1
 have HO1:=Lib.hid hown1
 have HG1:=Lib.hid hg1
 have HA:=Lib.hid hat
 clear hp1 hown1 hg1 hat
 go_wp2
 go_end0
 refine⟨rfl,.slice (some ⟨g,off,none⟩) (vs.length+1) cap,?_,?_,?_,?_⟩
 ·simpa using HP1.out.set_ 1 (.slice (some ⟨g,off,none⟩) (vs.length+1) cap)
 ·exact HO1.out.far (HO1.out.ne_blk HP1.out (by decide)) _
 ·exact(((Kp.refl _ w).alloc _).grown HG1.out (fun g' e _=>.inr e)).setCell (fun _=>.inl rfl) _
 ·intro g' hg'
  have:g=g':=by simpa[Value.ownBlock]using hg'
  subst this
  rcases HA.out with h|h
  ·exact .inl h
  ·right;rw[h];simp
theorem j5c {E:Nat→Prop} (p:Nat) (mv cv lv:Value) (nx:Int) (xs:List Int) (cs:List (List Int)) (w:World) (h:St E w p mv nx cv cs) (hl:Cl E w lv xs) (hn:cs.length<1000000000000):
 Calls Tryz.prog 154 #[.pointer (some ⟨p,0,none⟩),lv] w fun e w'=>e=.returned (.tuple #[])∧∃cv',St E w' p mv nx cv' (cs++[xs])∧Stp p w cv w' cv':=by
 obtain⟨vs,h1,h2,h3,h4⟩:=h
 have hl0:=hl
 obtain⟨A,c,rfl,hc,hr⟩:=hl
 refine(u5x p mv cv nx A _ c vs w h1 h2 (by omega)).mono ?_
 rintro e w' ⟨he,cv',g1,g2,g3⟩
 have hm:∀b,T3 E w b→¬(b=p∨cv.ownBlock=some b):=fun b hb hm=>by
  rcases hm with hm|hm
  ·exact hb.ne_blk h1 (by decide) hm
  ·exact hb.ne_own h2 (by decide) hm
 refine⟨he,cv',⟨_,g1,g2,by simp[h3],fun j v ys hv hy=>?_⟩,g3⟩
 rw[Qm4]at hv hy
 rw[h3]at hv
 by_cases hj:j<cs.length
 ·rw[if_pos hj]at hv hy
  exact(h4 j v ys hv hy).kp g3.1 hm (fun _ _ h=>h)
 ·rw[if_neg hj]at hv hy
  have:j-cs.length=0:=by
   rcases Qj7 (j-cs.length)with h|h
   ·exact h
   ·rw[Ql7 (by simp;omega)]at hv;cases hv
  rw[this]at hv hy
  simp at hv hy
  subst hv hy
  exact hl0.kp g3.1 hm (fun _ _ h=>h)
set_option maxHeartbeats 400000 in
theorem k6k {E:Nat→Prop} (p bw bc:Nat) (mv cv:Value) (nx x y c:Int) (cs:List (List Int)) (w:World) (h:St E w p mv nx cv cs) (hE:∀b,w.heap.size≤b→E b) (hn:cs.length<1000000000000)
 (hw:Blk w bw 160 #[.pointer (some ⟨p,0,none⟩)]) (hc:Blk w bc 3 #[I64 c]) (hx: -1000000000≤x) (hx':x≤1000000000) (hy: -1000000000≤y) (hy':y≤1000000000):
 Calls Tryz.prog 156 #[I64 x,I64 y,.pointer (some ⟨bw,0,none⟩),.pointer (some ⟨bc,0,none⟩)] w fun e w'=>e=.returned (.tuple #[])∧∃cv',St E w' p mv nx cv' (cs++[[-x,-y,c]])∧Stp p w cv w' cv':=by
 have c1:=hw.cell 0
 have c2:=hc.cell 0
 simp only[Qa5,Qa4]at c1 c2
 have HS:=Lib.hid h
 have HE:=Lib.hid hE
 clear h hw hc hE
 go_enter Tryz.func156,Tryz.ntmps156
 go_wp2_with fail
 have hcl:Cl E (w.alloc (.cells #[I64 (-x),I64 (-y),I64 c] 3)) (.slice (some ⟨w.heap.size,0,none⟩) 3 3) [-x,-y,c]:=Cl.of_blk (xs:=[-x,-y,c]) (Blk.new w _ _) rfl (HE.out _ (Qb8 _))
 refine(j5c p mv cv _ nx [-x,-y,c] cs _ (HS.out.alloc _) hcl hn).mono ?_
 rintro e w1 ⟨rfl,cv',s1,s2⟩
 have HS1:=Lib.hid s1
 have HS2:=Lib.hid s2
 clear s1 s2 hcl
 go_wp2_with fail
 go_end0
 exact⟨rfl,cv',HS1.out,((Stp.refl p w cv).alloc _).trans HS2.out⟩
set_option maxHeartbeats 400000 in
theorem k7t {E:Nat→Prop} (p bw bc:Nat) (mv cv:Value) (nx x y c:Int) (cs:List (List Int)) (w:World) (h:St E w p mv nx cv cs) (hE:∀b,w.heap.size≤b→E b) (hn:cs.length<1000000000000)
 (hw:Blk w bw 160 #[.pointer (some ⟨p,0,none⟩)]) (hc:Blk w bc 3 #[I64 c]) (hx: -1000000000≤c) (hx':c≤1000000000):
 Calls Tryz.prog 157 #[I64 x,I64 y,.pointer (some ⟨bw,0,none⟩),.pointer (some ⟨bc,0,none⟩)] w fun e w'=>e=.returned (.tuple #[])∧∃cv',St E w' p mv nx cv' (cs++[[x,y,-c]])∧Stp p w cv w' cv':=by
 have c1:=hw.cell 0
 have c2:=hc.cell 0
 simp only[Qa5,Qa4]at c1 c2
 have HS:=Lib.hid h
 have HE:=Lib.hid hE
 clear h hw hc hE
 go_enter Tryz.func157,Tryz.ntmps157
 go_wp2_with fail
 have hcl:Cl E (w.alloc (.cells #[I64 x,I64 y,I64 (-c)] 3)) (.slice (some ⟨w.heap.size,0,none⟩) 3 3) [x,y,-c]:=Cl.of_blk (xs:=[x,y,-c]) (Blk.new w _ _) rfl (HE.out _ (Qb8 _))
 refine(j5c p mv cv _ nx [x,y,-c] cs _ (HS.out.alloc _) hcl hn).mono ?_
 rintro e w1 ⟨rfl,cv',s1,s2⟩
 have HS1:=Lib.hid s1
 have HS2:=Lib.hid s2
 clear s1 s2 hcl
 go_wp2_with fail
 go_end0
 exact⟨rfl,cv',HS1.out,((Stp.refl p w cv).alloc _).trans HS2.out⟩
end Go.Proofs.YteikjpbbhopkaaaGreatDoor
namespace Go.Proofs.YteikjpbbhopkaaaGreatDoor
open Go.RowKit
set_option maxHeartbeats 400000 in
theorem k3k {D:Nat→Prop} (b off c:Nat) (l:List Int) (w:World) (h:Rd I64 D w (some ⟨b,off,none⟩) l) (hl:l.length<1000000000000):
 Calls Tryz.prog 48 #[.slice (some ⟨b,off,none⟩) l.length c] w fun e w'=>∃A cap,e=.returned (.slice A l.length cap)∧Own w' 3 (.slice A l.length cap) (l.map I64)∧Kp (fun _=>False) w w'∧
  ∀g,(Value.slice A l.length cap).ownBlock=some g→w.heap.size≤g:=by
 obtain⟨i0,hi,hz0,hz1,hz2⟩:=info_parts q6a
 have hnil:=Lib.run_eql_slice_nil (P:=Tryz.prog)
 have HI:=Lib.hid (And.intro hi (And.intro hz0 (And.intro hz1 hz2)))
 have hcells:∀j u,(l.map I64)[j]? =some u→(w.alloc (.cells #[] 3)).cell? ((⟨b,off,none⟩:Addr).add j)=some u:=fun j u hu=>by
  rw[Qg6,Qj3]at hu
  obtain⟨x,hx,rfl⟩:=hu
  obtain⟨hj,rfl⟩:=List.getElem?_eq_some_iff.1 hx
  obtain⟨b',off',e,_,hc⟩:=h (by omega)
  cases e
  rw[q5c]
  have h1:=hc j hj
  rw[World.cell?_alloc_lt w _ _ (World.block_lt_of_cell? w _ h1)]
  exact h1
 have HC:=Lib.hid hcells
 have HLm:=Lib.hid (show(l.map I64).length=l.length by simp)
 clear hi hz0 hz1 hz2 h hcells
 go_enter Tryz.func48,Tryz.ntmps48
 go_wp2_with (at_builtin;refine j0o _ rfl (.tmp 5) (.tmp 6) 34 rfl 3 i0 (.int .i64 0) 8 Tryz.underlying34 HI.out.1 HI.out.2.1 HI.out.2.2.1 HI.out.2.2.2 rfl _ [] rfl (Own.empty w _) ⟨b,off,none⟩ c (l.map I64) ?c0 HC.out ?c1 ?c2 ?c3 ?_)
 case c0=>rw[HLm.out];rfl
 case c1=>intro u hu;obtain⟨x,_,rfl⟩:=List.mem_map.1 hu;rfl
 case c2=>rw[HLm.out];simp[maxLen];omega
 case c3=>rw[HLm.out];simp;omega
 intro A cap w1 h1 h2 h3
 have H1:=Lib.hid h1
 have H2:=Lib.hid h2
 have H3:=Lib.hid h3
 clear h1 h2 h3
 go_wp2
 go_ret
 refine⟨A,cap,rfl,H1.out,?_,?_⟩
 ·exact((Kp.refl _ w).alloc _).grown H2.out (fun g e hg=>by simp[Value.ownBlock]at e;omega)
 ·intro g hg
  rcases H3.out g hg with e|e
  ·simp[Value.ownBlock]at e;omega
  ·omega
theorem k4s (n:Nat) (hn:n<8) (w:World):Calls Tryz.prog 153 #[.int .u64 n] w fun e w'=>e=.returned (I64 (pop8 n:Nat))∧w=w':=by
 match n,hn with
 |0,_=>go_enter Tryz.func153,Tryz.ntmps153;go_wp2;go_ret;exact⟨by kernel_rfl,rfl⟩
 |1,_=>go_enter Tryz.func153,Tryz.ntmps153;go_wp2;go_ret;exact⟨by kernel_rfl,rfl⟩
 |2,_=>go_enter Tryz.func153,Tryz.ntmps153;go_wp2;go_ret;exact⟨by kernel_rfl,rfl⟩
 |3,_=>go_enter Tryz.func153,Tryz.ntmps153;go_wp2;go_ret;exact⟨by kernel_rfl,rfl⟩
 |4,_=>go_enter Tryz.func153,Tryz.ntmps153;go_wp2;go_ret;exact⟨by kernel_rfl,rfl⟩
 |5,_=>go_enter Tryz.func153,Tryz.ntmps153;go_wp2;go_ret;exact⟨by kernel_rfl,rfl⟩
 |6,_=>go_enter Tryz.func153,Tryz.ntmps153;go_wp2;go_ret;exact⟨by kernel_rfl,rfl⟩
 |7,_=>go_enter Tryz.func153,Tryz.ntmps153;go_wp2;go_ret;exact⟨by kernel_rfl,rfl⟩
def TabAt (w:World):Prop:=∀j,j<64→w.cell? ⟨1,j,none⟩=some (.int .u8 (Lib.deBruijn64tab.getD j 0))
theorem tz64_key (x a:Nat) (hx:x<18446744073709551616) (hx0:x≠0) (hlow:x&&&(18446744073709551616-x)=a):
 IntKind.u64.wrap (bits BinOp.and IntKind.u64 (x:Int) (IntKind.u64.wrap (-(x:Int)))*285870213051353865)/288230376151711744=((a*285870213051353865%18446744073709551616/288230376151711744:Nat):Int):=by
 have e1:IntKind.u64.wrap (-(x:Int))=((18446744073709551616-x:Nat):Int):=by rw[IntKind.wrap_u64];omega
 rw[e1,bits_and_u64_nat x _ hx (by omega),hlow,IntKind.wrap_u64]
 omega
set_option maxHeartbeats 1000000 in
theorem u4v (x k idx:Nat) (w:World) (hx0:((x:Int)==0)=false)
 (key:IntKind.u64.wrap (bits BinOp.and IntKind.u64 (x:Int) (IntKind.u64.wrap (-(x:Int)))*285870213051353865)/288230376151711744=(idx:Int))
 (hi:idx<64) (hk:k<64) (hcell:w.cell? ⟨1,idx,none⟩=some (.int .u8 k)):
 Calls Tryz.prog 151 #[.int .u64 x] w fun e w'=>e=.returned (.int .i64 k)∧w=w':=by
 go_enter Tryz.func151,Tryz.ntmps151
 go_wp2_with (simp only[key])
 go_ret
 exact⟨rfl,rfl⟩
theorem k6h (x:Nat) (hx:x<18446744073709551616) (hx0:x≠0) (w:World) (hT:TabAt w):
 Calls Tryz.prog 151 #[.int .u64 x] w fun e w'=>e=.returned (.int .i64 (Lib.ctz 64 x))∧w=w':=by
 obtain⟨hlow,hk⟩:=Lib.lowest_bit 64 x hx0 hx
 obtain⟨hi,htab⟩:=Lib.deBruijn64_at _ hk
 have hcell:=hT _ hi
 rw[htab]at hcell
 exact u4v x _ _ w (by simp;omega) (tz64_key x _ hx hx0 hlow) hi hk hcell
theorem u1r (x:Nat) (hx:x<18446744073709551616) (hx0:x≠0) (w:World) (hT:TabAt w):
 Calls Tryz.prog 126 #[.int .u64 x] w fun e w'=>e=.returned (.int .i64 (Lib.ctz 64 x))∧w=w':=by
 have HT:=Lib.hid hT
 clear hT
 go_enter Tryz.func126,Tryz.ntmps126
 go_wp2_with (go_at_call 151;refine(k6h x hx hx0 w HT.out).mono ?_;rintro e w' ⟨rfl,rfl⟩)
 go_ret
 exact⟨rfl,rfl⟩
end Go.Proofs.YteikjpbbhopkaaaGreatDoor
