/- Lemmas and contracts for the row. -/
import Derived.Test.YteikjpbbhopkaaaGreatDoorProg
import Derived.Test.YteikjpbbhopkaaaGreatDoorPkRowElimGatesAD
import Derived.RecoverIn
import Derived.TacticsInMore
import Derived.RegionIn
set_option linter.unusedVariables false
set_option linter.unusedSimpArgs false
set_option linter.unnecessarySimpa false
namespace Go.Proofs.YteikjpbbhopkaaaGreatDoor.En
open Go Go.RowKit
theorem u4j (v0 v1 v2:Value) (W:World) (n:Nat):
 CallsDIn (FR none) n Tryz.prog 36 #[v0,v1,v2] .returning W fun e u' w'=>e=.returned (.tuple #[])∧u'=.returning∧w'=W:=by
 refine callsDIn_of_wpSIn Tryz.func36 rfl (by simp[FR,Fence.wide]) fun c₀ cs hu=>?_
 apply wpSIn_seq
 apply wpSIn_region
 simp[wpOpsSIn,go_sem,recoverD,hu,Tryz.ntmps36,Exit.thenS,FR,Fence.wide]
 refine wpSIn_of_wpIn rfl ?_
 gi_wp2
 cases c₀
 simp_all[bodyPostS,results,Tryz.results36]
theorem v1n (W:World) (v:Value):(Instr.typeAssert (.iface 84 v) 20 84 true).run Tryz.prog W=.ok (.tuple #[v,.bool true]) W:=by kernel_rfl
def v2e:List (Nat×TD):=[(3,⟨1,false,[.int .i64 0],[],none,8,false,1,1⟩),
 (34,⟨1,false,[.slice none 0 0],[],some 3,24,false,0,3⟩),
 (57,⟨3,true,[.slice none 0 0,.slice none 0 0,.int .i64 0],[(0,34),(1,34),(2,3)],none,56,false,0,5⟩),
 (28,⟨1,false,[.int .i64 0],[],none,8,false,1,1⟩),
 (27,⟨1,false,[.slice none 0 0],[],some 57,24,false,0,0⟩),
 (53,⟨2,true,[.slice none 0 0,.int .i64 0],[(0,27),(1,3)],none,32,false,0,0⟩),
 (84,⟨1,true,[.int .i64 0],[(0,28)],none,8,false,0,0⟩)]
theorem u2p:q5u Tryz.prog v2e:=⟨⟨by kernel_rfl,by kernel_rfl,by kernel_rfl⟩,⟨by kernel_rfl,by kernel_rfl,by kernel_rfl⟩,⟨by kernel_rfl,by kernel_rfl,by kernel_rfl⟩,⟨by kernel_rfl,by kernel_rfl,by kernel_rfl⟩,⟨by kernel_rfl,by kernel_rfl,by kernel_rfl⟩,⟨by kernel_rfl,by kernel_rfl,by kernel_rfl⟩,⟨by kernel_rfl,by kernel_rfl,by kernel_rfl⟩,trivial⟩
def k9r:Cx:=⟨v2e,[],true⟩
theorem x7m:q1c Tryz.prog k9r:=q0s u2p trivial
abbrev u6k:AV:=.im (.val (.slice none 0 0))
set_option maxHeartbeats 4000000 in
set_option maxRecDepth 20000 in
theorem k5r {wW:World} {wO:Nat→Prop} {wβ:Nat→Value} {GB:Nat→Prop} {g:Gh} (hU:∀r,g.U r→r<3) (hm:MOk ⟨wW,wO,3,wβ,[]⟩ GB g (q5i [] [(0,.box [.any]),(1,.box [.any,.any]),(2,.box [.any])]).heap)
 {v0 v1 v2:Value} (d0:Den g (.loc 0 0) v0) (d1:Den g (.loc 1 0) v1) (d2:Den g (.loc 2 0) v2) (e:Int) (older:List PanicEntry) (n:Nat) {W:World} (hW:g.W=W) {R:Ending→FrameMode→World→Prop}
 (hR:∀g':Gh,MOk ⟨wW,wO,3,wβ,[]⟩ GB g' (q5i [] [(0,.box [u6k]),(1,.box [u6k,.int 0]),(2,.box [.int e])]).heap→R (.returned (.tuple #[])) (.panicking ({v:=.iface 84 (.agg #[.int .i64 e]),recovered:=true}::older)) g'.W):
 CallsDIn (FR none) n Tryz.prog 36 #[v0,v1,v2] (.panicking ({v:=.iface 84 (.agg #[.int .i64 e]),recovered:=false}::older)) W R:=by
 refine callsDIn_of_wpSIn Tryz.func36 rfl (by simp[FR,Fence.wide]) fun c₀ cs hu=>?_
 apply wpSIn_seq
 apply wpSIn_region
 simp[wpOpsSIn,go_sem,recoverD,hu,Tryz.ntmps36,Exit.thenS,FR,Fence.wide]
 refine wpSIn_of_wpIn rfl ?_
 refine wpIn_block (wpIn_seq ?_)
 refine wpIn_region_list ?_
 simp[wpListIn,go_sem]
 generalize hQ:(Exit.inBlock 0 fun e_1 a' w'=>bodyPostS _ _ c₀ _ R e_1 a' _ w')=Q
 change Code.wpIn (FR none) n _ _ _ _ _
 refine wpIn_cond (t:=false) ?_ ?_
 ·simp only[Act.eval]
  rfl
 ·rw[if_neg Bool.false_ne_true]
  refine wpIn_seq ?_
  refine wpIn_region_list ?_
  simp[wpListIn,go_sem,FR,Fence.wide,v1n]
  generalize hQ2:Q=Q2
  change Code.wpIn (FR none) n _ _ _ _ _
  refine wpIn_cond (t:=true) ?_ ?_
  ·simp only[Act.eval]
   rfl
  rw[if_pos rfl]
  have hcx:=x7m
  have hmx:Tryz.prog.follows .mixedOrders=true:=by kernel_rfl
  refine y6c (n:=3) ?_
  refine(show Tg ⟨Tryz.prog,k9r,⟨wW,wO,3,wβ,[]⟩,GB,15,none⟩ ([(0,.loc 0 0),(1,.loc 1 0),(2,.loc 2 0),(11,.agg [.im (.val (.int .i64 e))])],[(0,.box [.any]),(1,.box [.any,.any]),(2,.box [.any])]) _ Q2 from
   Sz hcx [(1000,.to 604)] [4] [11] [] (Td hcx hmx [0,0,2,0,9,31] [(0,.to 0),(1,.to 1),(2,.to 2)] [] [4,0,1,2] [604] [] trivial ((fun S' (hS:S'=(([]:Env),[(0,q0d.box [u6k]),(1,.box [u6k,.int 0]),(2,.box [.int e])]))=>(?_:Fg _ S' Q2 .normal)) _ (by kernel_rfl)))) _ _ ⟨by simp,rfl,g,hW,fun r hr=>⟨by have:=hU r hr;omega,.inl (hU r hr)⟩,hm,fun i=>?_⟩
  ·subst hS
   intro a' W' hs
   obtain⟨_,_,g',rfl,_,hm',_⟩:=hs
   rw[←hQ2,←hQ]
   show bodyPostS _ _ _ _ _ .normal _ _ _
   cases c₀
   simp_all[bodyPostS,results,Tryz.results36]
  ·rcases(by omega:i=0∨i=1∨i=2∨i=11∨(i≠0∧i≠1∧i≠2∧i≠11))with rfl|rfl|rfl|rfl|⟨h0,h1,h2,h3⟩
   ·exact d0
   ·exact d1
   ·exact d2
   ·show Den g (.agg [.im (.val (.int .i64 e))]) (.agg #[.int .i64 e])
    simp only[Den]
    refine⟨[_],rfl,?_⟩
    simp only[q0e]
    exact⟨_,_,rfl,q0g _,rfl⟩
   ·have he:(q5i [(0,AV.loc 0 0),(1,.loc 1 0),(2,.loc 2 0),(11,.agg [.im (.val (.int .i64 e))])] [(0,q0d.box [.any]),(1,.box [.any,.any]),(2,.box [.any])]).env i=.any:=by
     show q1t _ i=_
     unfold q1t
     rw[q1a,if_neg h0,q1a,if_neg h1,q1a,if_neg h2,q1a,if_neg h3]
     rfl
    rw[he]
    trivial
end Go.Proofs.YteikjpbbhopkaaaGreatDoor.En
