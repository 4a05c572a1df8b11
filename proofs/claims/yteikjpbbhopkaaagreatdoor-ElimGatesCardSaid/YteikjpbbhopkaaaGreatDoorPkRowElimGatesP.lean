/- Lemmas and contracts for the row. -/
import Derived.Test.YteikjpbbhopkaaaGreatDoorPkRowElimGatesB
import Derived.Shelf.GgClosure.Gives
set_option linter.unusedVariables false
set_option linter.unusedSimpArgs false
set_option linter.unnecessarySimpa false
namespace Go.Proofs.YteikjpbbhopkaaaGreatDoor
open Go Go.RowKit Go.Sort
section
variable {α : Type} [Inhabited α] {enc : α → Value} {w : World} {e g off n cap : Nat} {xs ys : List α}
theorem Own.cur {v:Value} {us:List Value} (h:Own w e v us) (hv:v=.slice (some ⟨g,off,none⟩) n cap) (he:e≠5:=by decide):∃cur,w.heap[g]? =some (.cells cur e (0,0))∧us.length≤cap∧cap≤maxLen∧off+cap≤cur.size∧us.length=n∧∀j (h:j<us.length),cur[off+j]? =some us[j]:=by
 rcases h with⟨rfl,_⟩|⟨g',off',cap',cur,rfl,h1,h2,h3,h4,h5⟩
 ·cases hv
 ·injection hv with ha hn hc
  injection ha with ha
  injection ha with hb ho
  subst hb ho hc
  exact⟨cur,h1.plain he,h2,h3,h4,hn,h5⟩
theorem z8c (ho:Own w e (.slice (some ⟨g,off,none⟩) n cap) (xs.map enc)) (he:e≠5:=by decide):Holds enc w g off xs.toArray:=fun j hj=>by
 obtain⟨cur,h1,h2,h3,h4,hn,h5⟩:=ho.cur rfl he
 have hj':j<xs.length:=by simpa using hj
 refine⟨?_,by simp[World.frozen?,h1]⟩
 rw[cell_of_row w g _ cur e (0,0) h1,h5 j (by simpa using hj')]
 simp[getElem!_pos xs.toArray j hj]
theorem j7n (q:Nat) (d:Array α) (os:Array Obj):Kp (fun b=>b=g) w (sortWorld enc w g off q d os):=by
 have hs:(w.heap.modify g (onCells (putCells enc off d))).size=w.heap.size:=by simp
 refine⟨rfl,rfl,rfl,?_,fun k hk hn=>?_⟩
 ·show w.heap.size≤((w.heap.modify g (onCells (putCells enc off d)))++os).size
  rw[Qp8,hs];omega
 ·show((w.heap.modify g (onCells (putCells enc off d)))++os)[k]? =_
  rw[Qj4 (by rw[hs];exact hk),Ql5,if_neg (fun h=>hn h.symm)]
theorem j4k (ho:Own w e (.slice (some ⟨g,off,none⟩) n cap) (xs.map enc)) (q:Nat) (os:Array Obj) (hl:ys.length=xs.length) {m:Nat} (hm:m≤ys.length) (he:e≠5:=by decide):
 Own (sortWorld enc w g off q ys.toArray os) e (.slice (some ⟨g,off,none⟩) m cap) ((ys.take m).map enc):=by
 obtain⟨cur,h1,h2,h3,h4,hn,h5⟩:=ho.cur rfl he
 have hg:g<w.heap.size:=(Array.getElem?_eq_some_iff.1 h1).1
 have hs:(w.heap.modify g (onCells (putCells enc off ys.toArray))).size=w.heap.size:=by simp
 rw[Qa9]at h2
 refine .inr ⟨g,off,cap,putCells enc off ys.toArray cur,by simp[Qr2 hm],?_,by simp;omega,h3,by simpa[putCells]using h4,fun j hj=>?_⟩
 ·refine .mk0 ?_
  show((w.heap.modify g (onCells (putCells enc off ys.toArray)))++os)[g]? =_
  rw[Qj4 (by rw[hs];exact hg),Ql5,if_pos rfl,h1]
  rfl
 ·have hj':j<m∧j<ys.length:=by simp only[Qa9,Qd0]at hj;omega
  have hjc:off+j<cur.size:=by omega
  simp only[putCells,Array.getElem?_mapIdx,Qg9 hjc,Qg1]
  rw[if_pos ⟨by omega,by simp;omega⟩,show off+j-off=j by omega]
  simp[hj'.2]
end
end Go.Proofs.YteikjpbbhopkaaaGreatDoor
