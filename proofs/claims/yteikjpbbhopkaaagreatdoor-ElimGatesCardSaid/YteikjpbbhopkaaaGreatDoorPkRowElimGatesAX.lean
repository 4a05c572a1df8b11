/- Lemmas and contracts for the row. -/
import Derived.Test.YteikjpbbhopkaaaGreatDoorPkRowElimGatesAV
import Derived.Test.YteikjpbbhopkaaaGreatDoorRows
import Derived.LaidMore
import Derived.Lay
import Derived.Stop.Joined
import Derived.Lib.LaidU8
import Derived.Shelf.Vars
set_option linter.unusedVariables false
set_option linter.unusedSimpArgs false
set_option linter.unnecessarySimpa false
namespace Go.Proofs.YteikjpbbhopkaaaGreatDoor
open Go.ChangeShapes Go.WideShapes Go.ChangeAt Go.RowKit
abbrev lay : List (String × DataW Unit) := [("math/bits.deBruijn32tab", Rows.laid_math_bits_deBruijn32tab), ("math/bits.deBruijn64tab", Rows.laid_math_bits_deBruijn64tab)]
set_option maxRecDepth 100000 in
theorem k6d (os:Os) (args:Array Value):laidMetH Tryz.prog lay ((World.laidAll Tryz.prog os lay).forCall (fun _ _=>0) ⟨#[],args,[]⟩).memory:=by
 rw[MakeChecks.laidMetH_plain _ _ _ (by kernel_rfl)]
 exact laidMet_laidAll args (by kernel_rfl) (by kernel_rfl)
set_option maxRecDepth 100000 in
theorem x2s (os:Os):(World.laidAll Tryz.prog os lay).Shaped Tryz.prog:=World.shaped_of_ZipB (by kernel_rfl) (by kernel_rfl)
theorem u4p {P:Program} {W:World} {n:String} {k:Nat} {cs:Array Value} {xs:List Value} (hg:P.globalNamed n=some k) (hv:W.var? P n=some cs) (hc:cs.toList=xs):
 k<W.heap.size∧(∀(j:Nat) (x:Value),xs[j]? =some x→W.cell? ⟨k,j,none⟩=some x)∧∃t m,W.heap[k]? =some (.cells xs.toArray t m):=by
 have hcs:cs=xs.toArray:=by rw[←hc]
 subst hcs
 have h1:=fun j=>World.var?_cell hg hv j
 simp only[World.var?,hg,Option.bind_some]at hv
 split at hv
 ·rename_i c t m hb
  cases hv
  refine⟨?_,fun j x hj=>?_,t,m,hb⟩
  ·by_cases h:k<W.heap.size
   ·exact h
   ·rw[Array.getElem?_eq_none (by omega)]at hb;cases hb
  ·rw[h1 j];simpa using hj
 ·cases hv
theorem j0s {H:Type} {enc:TypeId×Value→H} {a:Assume} {C:Checked} {os:Os} {f:FuncId} {fn:Func} {s:ChangeSpec} {conds:List PathCond} {apart fresh handsOn again:Bool} {X:World→Array Value→Prop}
 (hX:∀(w w':World) (args:Array Value),w.heap=w'.heap→X w args→X w' args)
 (own:ownKnob C.prog.godebug=none) (started:os.Started) (noInit:C.prog.inits.idxOf? f=none) (hfn:C.prog.funcs[f]? =some fn)
 (witness:∃(w:World) (tape:Tape) (i:Input),w.os=os∧(w.forCall tape i).Shaped C.prog∧i.vars=[]∧Input.okWide C.prog (w.forCall tape i) .any w.heap.size f i∧
  ((s.pre enc C.prog fn conds apart (w.forCall tape i).memory i.args∧X (w.forCall tape i).memory i.args)∧sizedMet enc C.prog fn (OpenSpec.ofChange s) apart (w.forCall tape i).memory i.args)∧a.holds C.prog (lone (Frame.enter C.prog f i.args .normal) [] (w.forCall tape i)))
 (contract:∀(W:World) (base:Nat) (args:Array Value) (ds gs:List (DataW H)) (before:List MemPlace),
  (∀(j:Nat) t v,fn.params[j]? =some t→args[j]? =some v→Value.okWide C.prog W .any base t v)→
  DataW.Whole enc C.prog fn.params.toList s.vars apart W args.toList ds gs before→
  (DataW.weightsEach C.prog (fn.params.toList++s.plain.varTypes C.prog) (ds++gs)).all (· ≤reachBytes)=true→X W args→W.ShapedOpen C.prog→
  Calls C.prog f args W fun e W'=>∃v,e=.returned v∧s.post enc C.prog fn apart fresh handsOn again W args v W'):
 ReturnsInHanded a C os f .any (fun w args=>(s.pre enc C.prog fn conds apart w args∧X w args)∧sizedMet enc C.prog fn (OpenSpec.ofChange s) apart w args) (s.post enc C.prog fn apart fresh handsOn again):=by
 refine returnsInHanded_of_calls own started noInit witness ?_
 intro w tape i _ hsh _ hok hpre hholds
 obtain⟨_,_,_,fn',hfn',_,_,_,_,hval⟩:=hok
 have e:fn'=fn:=Option.some.inj (hfn'.symm.trans hfn)
 subst e
 obtain⟨⟨⟨ds,gs,before,hw,hc⟩,hx⟩,hz⟩:=hpre
 have hw':=DataW.Whole.of_heap (w':=w.forCall tape i) (by rfl) hw
 refine(contract (w.forCall tape i) w.heap.size i.args ds gs before hval hw' (hz.weights hw) (hX _ _ _ (by rfl) hx) hsh).mono fun e W' ⟨v,he,hp⟩=>?_
 subst he
 exact ChangeSpec.post_blind hp
def u4e:List Int:=Lib.deBruijn64tab.map Int.ofNat
theorem k6e {H:Type}:(Rows.laid_math_bits_deBruijn64tab:DataW H)=Lib.tabData .u8 u4e:=rfl
theorem x9p:u4e.map (Value.int .u8)=Lib.deBruijn64tab.map fun(n:Nat)=>Value.int .u8 (n:Int):=by unfold u4e;rw[Ql8];rfl
set_option maxRecDepth 100000 in
theorem y0w {W:World} (h:laidMetH Tryz.prog lay W) (hsh:W.ShapedOpen Tryz.prog):En.j2i (En.gW W):=by
 rw[MakeChecks.laidMetH_plain _ _ _ (by kernel_rfl)]at h
 have hp := Lib.laidMet.reads h (n := "math/bits.deBruijn64tab") (d := Rows.laid_math_bits_deBruijn64tab) (by simp [lay])
 rw[k6e]at hp
 have kp : Tryz.prog.globalNamed "math/bits.deBruijn64tab" = some 1 := by kernel_rfl
 have gp:(En.gW W).G 1∧(∀(j:Nat) (x:Value),(Lib.deBruijn64tab.map fun(n:Nat)=>Value.int .u8 (n:Int))[j]? =some x→(En.gW W).W.cell? ⟨1,j,none⟩=some x)∧∃t m,(En.gW W).W.heap[1]? =some (.cells ((Lib.deBruijn64tab.map fun(n:Nat)=>Value.int .u8 (n:Int))).toArray t m):=by
  obtain⟨g,t,cs,fuel,p,hg,hty,hvar,hd⟩:=hp
  obtain rfl:=Option.some.inj (kp.symm.trans hg)
  obtain rfl:=Option.some.inj ((show(Tryz.prog.globals[1]?).map (·.type)=some 195 by kernel_rfl).symm.trans hty)
  exact u4p kp hvar ((Lib.cells_of_tab Tryz.underlying195 Tryz.underlying5 (by kernel_rfl) (by kernel_rfl) hd).trans x9p)
 intro k xs hk
 by_cases e:1=k
 ·subst e
  have hk':some (Lib.deBruijn64tab.map fun(n:Nat)=>Value.int .u8 (n:Int))=some xs:=hk
  simp only[Option.some.injEq]at hk'
  subst hk'
  exact⟨gp.1,fun _=>gp.2,fun h0=>absurd h0 (by decide),fun h0=>absurd h0 (by decide)⟩
 ·have hk':(bif Nat.beq 1 k then some (Lib.deBruijn64tab.map fun(n:Nat)=>Value.int .u8 (n:Int))else none)=some xs:=hk
  rw[show Nat.beq 1 k=false from En.q4x e]at hk'
  cases hk'
end Go.Proofs.YteikjpbbhopkaaaGreatDoor
