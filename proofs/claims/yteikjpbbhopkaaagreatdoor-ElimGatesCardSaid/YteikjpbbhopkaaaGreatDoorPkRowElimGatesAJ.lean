/- Lemmas and contracts for the row. -/
import Derived.Test.YteikjpbbhopkaaaGreatDoorPkRowElimGatesAB
import Derived.Test.YteikjpbbhopkaaaGreatDoorPkRowElimGatesV
set_option linter.unusedVariables false
set_option linter.unusedSimpArgs false
set_option linter.unnecessarySimpa false
namespace Go.Proofs.YteikjpbbhopkaaaGreatDoor.En
open Go Go.RowKit
abbrev v2n (l:q4p):AV:=.agg [.ints l.C,.ints l.L,.int l.B]
theorem j1h {W:World} {G:Nat→Prop} {C L:List Int} {B:Int} {u:Value} (hG:∀b,G b→b<W.heap.size) (h:Den (g0 W G) (.agg [.ints C,.ints L,.int B]) u):
 ∃A A' c c',u=k7s A A' c c' ⟨C,L,B⟩∧j0q W A A' ⟨C,L,B⟩:=by
 simp only[Den]at h
 obtain⟨vs,rfl,hl⟩:=h
 obtain⟨a,b,c,rfl,h1,h2,h3⟩:=y5w hl
 simp only[Den]at h1 h2
 obtain⟨A,k,rfl,r1,m1⟩:=q8w h1 hG
 obtain⟨A',k',rfl,r2,m2⟩:=q8w h2 hG
 rw[q0b h3]
 exact⟨A,A',k,k',rfl,r1,r2,m1,m2⟩
theorem x2c {W W':World} {G:Nat→Prop} {A L:Option Addr} {cA cL:Nat} {l:q4p} (h:z6z W.heap.size W' A L cA cL l):
 Den (g0 W' (fun b=>G b∨(W.heap.size≤b∧b<W'.heap.size))) (v2n l) (k7s A L cA cL l):=by
 simp only[Den]
 refine⟨[_,_,_],rfl,?_⟩
 simp only[q0e]
 refine⟨_,_,rfl,?_,_,_,rfl,?_,_,_,rfl,?_,rfl⟩
 ·simp only[Den]
  exact z3n h.c (by have:=h.len.1;unfold maxLen;omega) (fun b hb=>.inr ⟨h.cB b hb,h.c.lt hb⟩)
 ·simp only[Den]
  exact z3n h.li (by have:=h.len.2;unfold maxLen;omega) (fun b hb=>.inr ⟨h.lB b hb,h.li.lt hb⟩)
 ·exact q0g _
def j4d:k1o
 |[.agg [.im (.ls (.ints C)),.im (.ls (.ints L)),.im (.val (.int .i64 B))],.im (.val (.int .i64 n))]=>some (True,.int (q0o ⟨C,L,B⟩ n))
 |_=>none
theorem y1g:j0u Tryz.prog 40 j4d:=by
 refine⟨fun args W=>q0r (fn:=Tryz.f40) Tryz.func40 (by kernel_rfl) rfl args W,fun W G args vs p r hG hs _ hd=>?_⟩
 unfold j4d at hs
 split at hs
 ·simp only[Option.some.injEq,Prod.mk.injEq]at hs
  obtain⟨rfl,rfl⟩:=hs
  obtain⟨u,u',rfl,h1,h2⟩:=q4u hd
  obtain⟨A,A',c,c',rfl,hA⟩:=j1h hG h1
  rw[q0b h2]
  refine(j0w A A' c c' _ _ W hA).mono ?_
  rintro e w' ⟨rfl,hb⟩
  exact⟨_,rfl,hb,q0g _⟩
 ·cases hs
def y3n:k1o
 |[.agg [.im (.ls (.ints C)),.im (.ls (.ints L)),.im (.val (.int .i64 B))]]=>some (True,v2n (q0j ⟨C,L,B⟩))
 |_=>none
theorem y5e:j0u Tryz.prog 41 y3n:=by
 refine⟨fun args W=>q0r (fn:=Tryz.f41) Tryz.func41 (by kernel_rfl) rfl args W,fun W G args vs p r hG hs _ hd=>?_⟩
 unfold y3n at hs
 split at hs
 ·simp only[Option.some.injEq,Prod.mk.injEq]at hs
  obtain⟨rfl,rfl⟩:=hs
  obtain⟨u,rfl,h1⟩:=q4w hd
  obtain⟨A,A',c,c',rfl,hA⟩:=j1h hG h1
  refine(k5f A A' c c' _ W hA).mono ?_
  rintro e w' ⟨A1,L1,k1,k2,rfl,ho,hb⟩
  exact⟨_,rfl,hb,x2c ho⟩
 ·cases hs
end Go.Proofs.YteikjpbbhopkaaaGreatDoor.En
