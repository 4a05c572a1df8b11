/- PROVED HERE: the law ElimGates of chalklinelaw23: at every input the law returns true, and each argument reads as it did. -/
import Derived.Test.YteikjpbbhopkaaaGreatDoorPkRowElimGatesAU
import Derived.Test.YteikjpbbhopkaaaGreatDoorPkRowElimGatesAW
import Derived.Test.YteikjpbbhopkaaaGreatDoorPkRowElimGatesAX
import Derived.Test.YteikjpbbhopkaaaGreatDoorCards
import Derived.Test.YteikjpbbhopkaaaGreatDoorTie
set_option linter.unusedVariables false
set_option linter.unusedSimpArgs false
set_option linter.unnecessarySimpa false
namespace Go.Proofs.YteikjpbbhopkaaaGreatDoor.elimGates
open Go.ChangeShapes Go.WideShapes Go.ChangeAt Go.RowKit Go.Joins Go.Deep
set_option maxRecDepth 100000 in
theorem lifted (os:Os) (started:os.Started) (H:Type) (enc:TypeId×Value→H):
 ReturnsInHanded {} Tryz.checked os 3 .any (fun w args=>(Rows.elimGatesSpec.pre enc Tryz.prog Tryz.f3 [] false w args∧laidMetH Tryz.prog lay w)∧sizedMet enc Tryz.prog Tryz.f3 (OpenSpec.ofChange Rows.elimGatesSpec) false w args)
  (Rows.elimGatesSpec.post enc Tryz.prog Tryz.f3 false true false false):=by
 refine j0s (C:=Tryz.checked) (X:=fun w _=>laidMetH Tryz.prog lay w) (fun _ _ _ hh h=>h.of_heap hh) own started (by kernel_rfl) Tryz.func3
  (ChangeSpec.witness_shaped (enc:=enc) (C:=Tryz.checked) (os:=os) (X:=fun w _=>laidMetH Tryz.prog lay w) false (World.laidAll Tryz.prog os lay) #[.agg #[.int .i64 0,.int .i64 0,.int .i64 0,.slice none 0 0],.int .i64 0,.int .i64 0] 8 rfl (x2s os) (by kernel_rfl) (by kernel_rfl) (by kernel_rfl) (k6d os _)) ?_
 intro W base args ds gs before hval0 hW hsz hL hsh
 have hval:∀(j:Nat) t v,Tryz.f3.params[j]? =some t→args[j]? =some v→Value.okWide Tryz.prog W .any base t v:=hval0
 have hW':=hW
 obtain⟨p,q,hA0,hV,rfl,hfz,hnd⟩:=hW
 have hA:DataW.TrodAll enc Tryz.prog W 0 (fun _=>true) true Tryz.f3.params.toList args.toList ds p:=hA0
 rw[Tryz.params3]at hA hval
 obtain⟨v0,vs0,d0,ds0,p0,q0,hargs,rfl,rfl,h0,r0⟩:=trodAll_cons hA
 obtain⟨v1,vs1,d1,ds1,p1,q1,rfl,rfl,rfl,h1,r1⟩:=trodAll_cons r0
 obtain⟨v2,vs2,d2,ds2,p2,q2,rfl,rfl,rfl,h2,r2⟩:=trodAll_cons r1
 obtain⟨rfl,rfl,rfl⟩:=trodAll_nil r2
 obtain rfl:args= #[v0,v1,v2]:=by cases args;simp_all
 obtain⟨rfl,rfl⟩:=trodVars_none hV
 have hz0:(DataW.weightsEach Tryz.prog [24,3,3] [d0,d1,d2]).all (· ≤reachBytes)=true:=by rw[Tryz.params3]at hsz;exact hsz
 obtain⟨hw0,hz1⟩:=En.z0v hz0
 obtain⟨hw1,hz2⟩:=En.z0v hz1
 obtain⟨hw2,hz3⟩:=En.z0v hz2
 have k0:=h0
 have lt0:∀x∈p0,x.block<W.heap.size:=by obtain⟨m,hm⟩:=k0;exact DataW.trod_lt m _ _ _ hm
 obtain⟨q_0,n_0,k_0,l_0,den_0,mw0_0,mb_0⟩:=En.x2j (hval 0 24 v0 rfl rfl) h0
 have mw_0:=mw0_0 hw0
 obtain⟨x_1,rfl,rfl,rfl,w1⟩:=open_int Tryz.underlying3 (hval 1 3 v1 rfl rfl) h1
 have b_1:=y0b w1
 have den_1:En.Den (En.gW W) (.int x_1) (.int .i64 x_1):=En.q0g _
 obtain⟨x_2,rfl,rfl,rfl,w2⟩:=open_int Tryz.underlying3 (hval 2 3 v2 rfl rfl) h2
 have b_2:=y0b w2
 have den_2:En.Den (En.gW W) (.int x_2) (.int .i64 x_2):=En.q0g _
 clear hA0 hval0
 have hgl:En.j2i (En.gW W):=y0w hL hsh
 have walk:Calls Tryz.prog 3 #[v0,.int .i64 x_1,.int .i64 x_2] W fun e w'=>e=.returned (.bool true)∧Below W.heap.size W w':=En.k6x hgl (args:=[.agg [.int q_0,.int n_0,.int k_0,.trees l_0],.int x_1,.int x_2]) (vs:=[v0,.int .i64 x_1,.int .i64 x_2]) En.z5h rfl ⟨mw_0.1,mw_0.2,b_1,b_2⟩ (by simp only[En.q0e];exact⟨_,_,rfl,den_0,_,_,rfl,den_1,_,_,rfl,den_2,rfl⟩)
 refine walk.mono fun e W' ⟨he,bel⟩=>?_
 subst he
 exact⟨_,rfl,_,_,_,[],_,[],hW',trodAll_mk1 (shut_bool Tryz.underlying4 _),(trodAll_cons_mk (Below.trod laidOut (by kernel_rfl) (of_decide_eq_true (by kernel_rfl)) k0 bel lt0) (trodAll_cons_mk (shut_int Tryz.underlying3 w1) (trodAll_cons_mk (shut_int Tryz.underlying3 w2) trodAll_mk0))),rfl,bel.frame _,fun h=>by cases h⟩
theorem said:Rows.ElimGatesSaid:=
 OpenClaim.holds_of_wide 3 Tryz.f3 rfl rfl rfl rfl rfl rfl rfl ⟨rfl,rfl,rfl,rfl,rfl⟩ rfl rfl rfl rfl rfl (by kernel_rfl) Tryz.func3 (by kernel_rfl)
  (of_decide_eq_true (by kernel_rfl)) (by unfold Func.isWrapper;first|(rw[if_pos (by decide+kernel)];kernel_rfl)|(rw[if_neg (by decide+kernel)];exact⟨rfl,rfl⟩))
  (fun os started H enc _=>lifted os started H enc)
theorem plain (f : FuncId) (fn : Func) (hf : Tryz.pinned.checked.prog.funcNamed "chalkline/chalklinelaw23.ElimGates" = some f) (hfn : Tryz.pinned.checked.prog.funcs[f]? = some fn) :
 true=Tryz.pinned.checked.prog.looks []∧∀(j:Nat) t,fn.params[j]? =some t→Tryz.pinned.checked.prog.wantsStandIn t=false:=by
 obtain rfl : f = 3 := Option.some.inj ((show Tryz.prog.funcNamed "chalkline/chalklinelaw23.ElimGates" = some 3 by kernel_rfl).symm.trans hf) |>.symm
 obtain rfl:fn=Tryz.f3:=(Option.some.inj (Tryz.func3.symm.trans hfn)).symm
 refine⟨by kernel_rfl,fun j t ht=>?_⟩
 rw[Tryz.params3]at ht
 have hm:t∈[24,3,3]:=by simpa using Array.mem_of_getElem? ht
 have hall:([24,3,3].all fun u=> !Tryz.prog.wantsStandIn u)=true:=by kernel_rfl
 exact(show Tryz.prog.wantsStandIn t=false by simpa using List.all_eq_true.1 hall t hm)
theorem card:Rows.ElimGatesCardSaid:=
 Claim7.holds_tied_plain_at .later [] _ _ _ _ said (fun _ h=>by cases h) (by kernel_rfl) (fun _ h=>by cases h) elimGates_row_tie rfl ⟨rfl,rfl⟩ (by kernel_rfl) rfl plain (by kernel_rfl)
#print axioms card
end Go.Proofs.YteikjpbbhopkaaaGreatDoor.elimGates
