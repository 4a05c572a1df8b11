/- Lemmas and contracts for the row. -/
import Derived.Test.YteikjpbbhopkaaaGreatDoorProg
import Derived.Test.YteikjpbbhopkaaaGreatDoorPkRowElimGatesB
import Derived.BigQuiet
import Derived.Lib.Hide
import Derived.Sort.Grow
set_option linter.unusedVariables false
set_option linter.unusedSimpArgs false
set_option linter.unnecessarySimpa false
namespace Go.Proofs.YteikjpbbhopkaaaGreatDoor
open Go Go.RowKit
theorem v1k (x n:Int) (w:World) (hn0:0≤n) (hn:n≤65536):Calls Tryz.prog 46 #[I64 x,I64 n] w fun e w'=>e=.returned (.bool (Cn.q2q x n))∧w=w':=by
 by_cases h0:x=0
 ·have e0:(x !=0)=false:=by simpa using h0
  have HR:=Lib.hid (show Cn.q2q x n=false by simp[Cn.q2q,h0])
  clear h0
  go_enter Tryz.func46,Tryz.ntmps46
  go_wp2
  go_ret
  exact⟨by rw[HR.out];rfl,rfl⟩
 ·have e0:(x !=0)=true:=by simpa using h0
  by_cases h1: -n≤x
  ·by_cases h2:x≤n
   ·have HR:=Lib.hid (show Cn.q2q x n=true by simp[Cn.q2q,h0,h1,h2])
    clear h0
    go_enter Tryz.func46,Tryz.ntmps46
    go_wp2
    go_ret
    exact⟨by rw[HR.out];rfl,rfl⟩
   ·have HR:=Lib.hid (show Cn.q2q x n=false by simp[Cn.q2q,h2])
    have e2:decide (x≤n)=false:=by simpa using h2
    clear h0
    go_enter Tryz.func46,Tryz.ntmps46
    go_wp2
    go_ret
    exact⟨by rw[HR.out];rfl,rfl⟩
  ·have HR:=Lib.hid (show Cn.q2q x n=false by simp[Cn.q2q,h1])
   have e1:decide (-n≤x)=false:=by simpa using h1
   clear h0
   go_enter Tryz.func46,Tryz.ntmps46
   go_wp2
   go_ret
   exact⟨by rw[HR.out];rfl,rfl⟩
theorem u5d {x y:Int} (h:x=y):Ending.returned (I64 x)=Ending.returned (I64 y):=by rw[h]
theorem v2t (x:Int) (w:World) (h1: -65536≤x) (h2:x≤65536):Calls Tryz.prog 98 #[I64 x] w fun e w'=>e=.returned (I64 (x.natAbs:Int))∧w=w':=by
 by_cases h:0<x
 ·have HR:=Lib.hid (show(x.natAbs:Int)=x by omega)
  go_enter Tryz.func98,Tryz.ntmps98
  go_wp2
  go_ret
  exact⟨by rw[HR.out];rfl,rfl⟩
 ·have HR:=Lib.hid (show(x.natAbs:Int)= -x by omega)
  go_enter Tryz.func98,Tryz.ntmps98
  go_wp2
  all_goals
   go_ret
   exact⟨by rw[HR.out];exact u5d (by omega),rfl⟩
theorem y5o (x:Int) (w:World):Calls Tryz.prog 105 #[I64 x] w fun e w'=>e=.returned (.bool false)∧w=w':=by
 go_enter Tryz.func105,Tryz.ntmps105
 go_wp2_with fail
 go_ret
 exact⟨by simp,rfl⟩
def x4t (x y:Int):Int:=if x<y then-1 else if y<x then 1 else 0
theorem y1s (x y:Int) (w:World):Calls Tryz.prog 77 #[I64 x,I64 y] w fun e w'=>e=.returned (I64 (x4t x y))∧w=w':=by
 unfold x4t
 rcases Qq3 x y with h|h|h
 ·rw[if_pos h]
  go_enter Tryz.func77,Tryz.ntmps77
  go_wp2_with (first|(go_at_call 105;refine(y5o _ _).mono ?_;rintro e w1 ⟨rfl,rfl⟩))
  go_ret
  exact⟨rfl,rfl⟩
 ·subst h
  rw[if_neg (Qn1 _),if_neg (Qn1 _)]
  have h1:¬x<x:=Qn1 _
  go_enter Tryz.func77,Tryz.ntmps77
  go_wp2_with (first|(go_at_call 105;refine(y5o _ _).mono ?_;rintro e w1 ⟨rfl,rfl⟩))
  go_ret
  exact⟨rfl,rfl⟩
 ·have h1:¬x<y:=by omega
  rw[if_neg h1,if_pos h]
  go_enter Tryz.func77,Tryz.ntmps77
  go_wp2_with (first|(go_at_call 105;refine(y5o _ _).mono ?_;rintro e w1 ⟨rfl,rfl⟩))
  go_ret
  exact⟨rfl,rfl⟩
theorem v3f (a b:Int) (g:Nat) (w:World) (h0:w.cell? ⟨g,0,none⟩=some (I64 a)) (h1:w.cell? ⟨g,1,none⟩=some (I64 b)):
 Calls Tryz.prog 97 #[.slice (some ⟨g,0,none⟩) 2 2] w fun e w'=>e=.returned (I64 (if a=0 then b else a))∧w=w':=by
 by_cases ha:a=0
 ·rw[if_pos ha]
  have e0:(a !=0)=false:=by simpa using ha
  clear ha
  by_cases hb:b=0
  ·subst hb
   go_enter Tryz.func97,Tryz.ntmps97
   go_wp2_with fail
   refine wp_loop_rounds 3 ?_
   rw[rounds_succ]
   go_wp2_with fail
   rw[rounds_succ]
   go_wp2_with fail
   rw[rounds_succ]
   go_wp2_with fail
   go_ret
   exact⟨rfl,rfl⟩
  ·have e1:(b !=0)=true:=by simpa using hb
   clear hb
   go_enter Tryz.func97,Tryz.ntmps97
   go_wp2_with fail
   refine wp_loop_rounds 3 ?_
   rw[rounds_succ]
   go_wp2_with fail
   rw[rounds_succ]
   go_wp2_with fail
   go_ret
   exact⟨rfl,rfl⟩
 ·rw[if_neg ha]
  have e0:(a !=0)=true:=by simpa using ha
  clear ha
  go_enter Tryz.func97,Tryz.ntmps97
  go_wp2_with fail
  refine wp_loop_rounds 3 ?_
  rw[rounds_succ]
  go_wp2_with fail
  go_ret
  exact⟨rfl,rfl⟩
theorem u3l (x:Int) (w:World):Calls Tryz.prog 94 #[I64 x] w fun e w'=>e=.returned (.bool (!Cn.q2q x 65536))∧w=w':=by
 have HM:=Lib.hid (v1k x 65536 w (by decide) (by decide))
 go_enter Tryz.func94,Tryz.ntmps94
 go_wp2_with fail
 refine HM.out.mono ?_
 rintro e w1 ⟨rfl,rfl⟩
 go_wp2_with fail
 go_ret
 exact⟨rfl,rfl⟩
theorem u4u (q o:Nat) (x y:Int) (w:World) (hq:w.cell? ⟨q,o,none⟩=some (I64 x)):Calls Tryz.prog 92 #[I64 y,.pointer (some ⟨q,o,none⟩)] w fun e w'=>e=.returned (.bool (y==x))∧w=w':=by
 go_enter Tryz.func92,Tryz.ntmps92
 go_wp2_with fail
 go_ret
 exact⟨rfl,rfl⟩
def cmpL (x y:Int):Int:=if x4t x.natAbs y.natAbs=0 then x4t y x else x4t x.natAbs y.natAbs
set_option maxHeartbeats 400000 in
theorem u2y (x y:Int) (w:World) (hx1: -65536≤x) (hx2:x≤65536) (hy1: -65536≤y) (hy2:y≤65536):
 Calls Tryz.prog 96 #[I64 x,I64 y] w fun e w'=>e=.returned (I64 (cmpL x y))∧∃os,w'=Sort.grow w os:=by
 have HX:=Lib.hid (v2t x w hx1 hx2)
 have HY:=Lib.hid (v2t y w hy1 hy2)
 have HC:=Lib.hid (y1s x.natAbs y.natAbs w)
 have HD:=Lib.hid (y1s y x w)
 have HO:=Lib.hid (fun g W=>v3f (x4t x.natAbs y.natAbs) (x4t y x) g W)
 have HR:=Lib.hid (show cmpL x y=if x4t x.natAbs y.natAbs=0 then x4t y x else x4t x.natAbs y.natAbs from rfl)
 clear hx1 hx2 hy1 hy2
 generalize (x.natAbs:Int)=xa at HX HC HO HR
 generalize (y.natAbs:Int)=ya at HY HC HO HR
 generalize x4t xa ya=c1 at HC HO HR
 generalize x4t y x=c2 at HD HO HR
 generalize (if c1=0 then c2 else c1)=r at HO HR
 go_enter Tryz.func96,Tryz.ntmps96
 go_wp2_with fail
 refine HX.out.mono ?_
 rintro e w1 ⟨rfl,rfl⟩
 go_wp2_with fail
 refine HY.out.mono ?_
 rintro e w1 ⟨rfl,rfl⟩
 go_wp2_with fail
 refine HC.out.mono ?_
 rintro e w1 ⟨rfl,rfl⟩
 go_wp2_with fail
 refine HD.out.mono ?_
 rintro e w1 ⟨rfl,rfl⟩
 go_wp2_with fail
 refine(HO.out _ _ ?_ ?_).mono ?_
 ·rw[cell_of_row _ _ _ _ _ _ (heap_alloc_new _ _)];rfl
 ·rw[cell_of_row _ _ _ _ _ _ (heap_alloc_new _ _)];rfl
 rintro e w1 ⟨rfl,rfl⟩
 go_wp2_with fail
 go_ret
 exact⟨by rw[HR.out];rfl,_,Sort.alloc_eq_grow _ _⟩
end Go.Proofs.YteikjpbbhopkaaaGreatDoor
