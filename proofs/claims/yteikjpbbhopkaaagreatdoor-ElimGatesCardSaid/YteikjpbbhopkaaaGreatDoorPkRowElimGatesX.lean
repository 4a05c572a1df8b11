/- Lemmas and contracts for the row. -/
import Derived.Test.YteikjpbbhopkaaaGreatDoorPkRowElimGatesE
import Derived.Lib.ConvBytes
import Derived.OrdersIn
import Derived.RangeFuncNested
import Derived.Test.YteikjpbbhopkaaaGreatDoorPkRowElimGatesK
import Derived.Test.YteikjpbbhopkaaaGreatDoorPkRowElimGatesL
set_option linter.unusedVariables false
set_option linter.unusedSimpArgs false
set_option linter.unnecessarySimpa false
namespace Go.Proofs.YteikjpbbhopkaaaGreatDoor.En
section
open Go
inductive Tree where
 |node (kind v k:Int) (l:List Tree)
def Tree.kind:Tree→Int|.node a _ _ _=>a
def Tree.v:Tree→Int|.node _ a _ _=>a
def Tree.k:Tree→Int|.node _ _ a _=>a
def Tree.l:Tree→List Tree|.node _ _ _ a=>a
def q0a:Tree:=.node 0 0 0 []
inductive LD where
 |ints (xs:List Int)
 |bools (xs:List Bool)
 |intss (xs:List (List Int))
 |trees (xs:List Tree)
 |lins (xs:List (List Int×List Int×Int))
 |undos (xs:List (Int×List (List Int)))
 |lines (xs:List (Int×List Int))
 |bytes (xs:List Int)
 |strs (xs:List ByteArray)
inductive IV where
 |val (v:Value)
 |ls (l:LD)
def LD.len:LD→Nat
 |.ints xs=>xs.length
 |.bools xs=>xs.length
 |.intss xs=>xs.length
 |.trees xs=>xs.length
 |.lins xs=>xs.length
 |.undos xs=>xs.length
 |.lines xs=>xs.length
 |.bytes xs=>xs.length
 |.strs xs=>xs.length
def LD.st:LD→Nat
 |.trees _=>4
 |.lins _=>3
 |.undos _=>2
 |.lines _=>2
 |_=>1
abbrev IV.int (n:Int):IV:=.val (.int .i64 n)
abbrev IV.bool (b:Bool):IV:=.val (.bool b)
def j5i (t:Tree):Nat→IV
 |0=>.int t.kind
 |1=>.int t.v
 |2=>.int t.k
 |_=>.ls (.trees t.l)
def x8g (x:List Int×List Int×Int):Nat→IV
 |0=>.ls (.ints x.1)
 |1=>.ls (.ints x.2.1)
 |_=>.int x.2.2
def y8f (x:Int×List (List Int)):Nat→IV
 |0=>.int x.1
 |_=>.ls (.intss x.2)
def y9i (x:Int×List Int):Nat→IV
 |0=>.int x.1
 |_=>.ls (.ints x.2)
def LD.cell:LD→Nat→Nat→IV
 |.ints xs,i,_=>.int (xs.getD i 0)
 |.bools xs,i,_=>.bool (xs.getD i false)
 |.intss xs,i,_=>.ls (.ints (xs.getD i []))
 |.trees xs,i,j=>j5i (xs.getD i q0a) j
 |.lins xs,i,j=>x8g (xs.getD i ([],[],0)) j
 |.undos xs,i,j=>y8f (xs.getD i (0,[])) j
 |.lines xs,i,j=>y9i (xs.getD i (0,[])) j
 |.bytes xs,i,_=>.val (.int .u8 (xs.getD i 0))
 |.strs xs,i,_=>.val (.string (xs.getD i ByteArray.empty))
def LD.app:LD→LD→Option LD
 |.ints xs,.ints ys=>some (.ints (xs++ys))
 |.bools xs,.bools ys=>some (.bools (xs++ys))
 |.intss xs,.intss ys=>some (.intss (xs++ys))
 |.trees xs,.trees ys=>some (.trees (xs++ys))
 |.lins xs,.lins ys=>some (.lins (xs++ys))
 |.undos xs,.undos ys=>some (.undos (xs++ys))
 |.lines xs,.lines ys=>some (.lines (xs++ys))
 |.bytes xs,.bytes ys=>some (.bytes (xs++ys))
 |.strs xs,.strs ys=>some (.strs (xs++ys))
 |_,_=>none
def LD.put:LD→Nat→IV→Option LD
 |.ints xs,i,.val (.int .i64 n)=>some (.ints (xs.set i n))
 |.bools xs,i,.val (.bool b)=>some (.bools (xs.set i b))
 |.intss xs,i,.ls (.ints l)=>some (.intss (xs.set i l))
 |.bytes xs,i,.val (.int .u8 n)=>some (.bytes (xs.set i n))
 |.strs xs,i,.val (.string n)=>some (.strs (xs.set i n))
 |_,_,_=>none
def LD.zeros:Nat→Nat→Option LD
 |1,n=>some (.ints (List.replicate n 0))
 |2,n=>some (.bools (List.replicate n false))
 |_,_=>none
def LD.none:Nat→Option LD
 |1=>some (.ints [])
 |2=>some (.bools [])
 |3=>some (.intss [])
 |4=>some (.trees [])
 |5=>some (.lins [])
 |6=>some (.undos [])
 |7=>some (.lines [])
 |8=>some (.bytes [])
 |9=>some (.strs [])
 |_=>Option.none
def LD.one:Nat→List IV→Option LD
 |1,[.val (.int .i64 n)]=>some (.ints [n])
 |2,[.val (.bool b)]=>some (.bools [b])
 |3,[.ls (.ints l)]=>some (.intss [l])
 |3,[.val (.slice .none 0 0)]=>some (.intss [[]])
 |4,[.val (.int .i64 a),.val (.int .i64 b),.val (.int .i64 c),.ls (.trees l)]=>some (.trees [.node a b c l])
 |4,[.val (.int .i64 a),.val (.int .i64 b),.val (.int .i64 c),.val (.slice .none 0 0)]=>some (.trees [.node a b c []])
 |5,[.ls (.ints a),.ls (.ints b),.val (.int .i64 c)]=>some (.lins [(a,b,c)])
 |5,[.val (.slice .none 0 0),.val (.slice .none 0 0),.val (.int .i64 c)]=>some (.lins [([],[],c)])
 |6,[.val (.int .i64 a),.ls (.intss b)]=>some (.undos [(a,b)])
 |6,[.val (.int .i64 a),.val (.slice .none 0 0)]=>some (.undos [(a,[])])
 |7,[.val (.int .i64 a),.ls (.ints b)]=>some (.lines [(a,b)])
 |7,[.val (.int .i64 a),.val (.slice .none 0 0)]=>some (.lines [(a,[])])
 |8,[.val (.int .u8 n)]=>some (.bytes [n])
 |9,[.val (.string n)]=>some (.strs [n])
 |_,_=>Option.none
def LD.sub:LD→Nat→Nat→LD
 |.ints xs,l,h=>.ints ((xs.take h).drop l)
 |.bools xs,l,h=>.bools ((xs.take h).drop l)
 |.intss xs,l,h=>.intss ((xs.take h).drop l)
 |.trees xs,l,h=>.trees ((xs.take h).drop l)
 |.lins xs,l,h=>.lins ((xs.take h).drop l)
 |.undos xs,l,h=>.undos ((xs.take h).drop l)
 |.lines xs,l,h=>.lines ((xs.take h).drop l)
 |.bytes xs,l,h=>.bytes ((xs.take h).drop l)
 |.strs xs,l,h=>.strs ((xs.take h).drop l)
inductive AV where
 |any
 |im (x:IV)
 |opt (c:Bool) (x:AV)
 |agg (xs:List AV)
 |tup (xs:List AV)
 |loc (r off:Nat)
 |pto (xs:List IV)
 |row (r:Nat)
 |prow (r i j:Nat)
 |clo (f:Nat) (xs:List AV)
 |err (b:Bool)
abbrev AV.int (n:Int):AV:=.im (.int n)
abbrev AV.bool (b:Bool):AV:=.im (.bool b)
abbrev AV.ints (xs:List Int):AV:=.im (.ls (.ints xs))
abbrev AV.bools (xs:List Bool):AV:=.im (.ls (.bools xs))
abbrev AV.intss (xs:List (List Int)):AV:=.im (.ls (.intss xs))
abbrev AV.trees (xs:List Tree):AV:=.im (.ls (.trees xs))
abbrev AV.lins (xs:List (List Int×List Int×Int)):AV:=.im (.ls (.lins xs))
abbrev AV.undos (xs:List (Int×List (List Int))):AV:=.im (.ls (.undos xs))
abbrev AV.lines (xs:List (Int×List Int)):AV:=.im (.ls (.lines xs))
abbrev AV.bytes (xs:List Int):AV:=.im (.ls (.bytes xs))
abbrev AV.strs (xs:List ByteArray):AV:=.im (.ls (.strs xs))
inductive q0d where
 |box (cells:List AV)
 |row (e:Nat) (l:LD)
 |other (b:Nat) (o:Obj)
 |mset (ks:List Int)
 |mfun (ks:List Int) (cs:List AV)
structure TD where
 size:Nat
 isAgg:Bool
 zero:List Value
 fields:List (Nat×Nat)
 elem:Option Nat
 bytes:Nat
 isBool:Bool
 ik:Nat
 ld:Nat
def TD.el (td:TD):Option Nat:=bif td.isAgg then none else td.elem
def CtF:=List AV→List q0d→Option (Prop×AV×List (Option q0d))
def k1o:=List AV→Option (Prop×AV)
def k1o.up (σ:k1o):CtF:=fun args os=>match os with
 |[]=>(match σ args with|some (p,r)=>some (p,r,[])|none=>none)
 |_::_=>none
structure Cx where
 ty:List (Nat×TD)
 fn:List (Nat×CtF)
 mkr:Bool:=false
def look {α:Type} (k:Nat):List (Nat×α)→Option α
 |[]=>none
 |(j,x)::l=>bif Nat.beq j k then some x else look k l
structure St where
 env:Nat→AV
 heap:Nat→Option q0d
def q1t (l:List (Nat×AV)) (k:Nat):AV:=match look k l with|some x=>x|none=>.any
def upd {α:Type} (f:Nat→α) (k:Nat) (x:α):Nat→α:=fun j=>bif Nat.beq j k then x else f j
def q5i (l:List (Nat×AV)) (h:List (Nat×q0d)):St:=⟨q1t l,fun k=>look k h⟩
def glw (k:Nat):Nat:=match look k v3n with|some n=>n|none=>0
@[irreducible] def bndK : Nat := 1000000
def St.ev (S:St):Operand→AV
 |.tmp t=>S.env t
 |.const v=>.im (.val v)
 |.global k=>match look k glb with|some xs=>bif Nat.beq (glw k) 0 then .pto (xs.map .val)else .any|none=>.any
 |.func f=>bif Nat.blt f bndK then .clo f []else .any
mutual
def AV.refs:AV→List Nat
 |.opt _ x=>x.refs
 |.agg xs=>q6l xs
 |.tup xs=>q6l xs
 |.clo _ xs=>q6l xs
 |.loc r _=>[r]
 |.row r=>[r]
 |.prow r _ _=>[r]
 |.any=>[]
 |.im _=>[]
 |.pto _=>[]
 |.err _=>[]
def q6l:List AV→List Nat
 |[]=>[]
 |x::l=>x.refs++q6l l
end
def q0d.refs:q0d→List Nat
 |.box cs=>q6l cs
 |.row _ _=>[]
 |.other _ _=>[]
 |.mset _=>[]
 |.mfun _ cs=>q6l cs
mutual
def q8z (f:Nat→Nat):AV→AV
 |.any=>.any
 |.im x=>.im x
 |.opt c x=>.opt c (q8z f x)
 |.agg xs=>.agg (z0h f xs)
 |.tup xs=>.tup (z0h f xs)
 |.loc r off=>.loc (f r) off
 |.pto xs=>.pto xs
 |.row r=>.row (f r)
 |.prow r i j=>.prow (f r) i j
 |.clo g xs=>.clo g (z0h f xs)
 |.err b=>.err b
def z0h (f:Nat→Nat):List AV→List AV
 |[]=>[]
 |x::l=>q8z f x::z0h f l
end
def y3g (f:Nat→Nat):q0d→q0d
 |.box cs=>.box (z0h f cs)
 |.row e l=>.row e l
 |.other b o=>.other b o
 |.mset ks=>.mset ks
 |.mfun ks cs=>.mfun ks (z0h f cs)
def eqL:List Nat→List Nat→Bool
 |[],[]=>true
 |a::l,b::m=>Nat.beq a b&&eqL l m
 |_,_=>false
def q5q (k:Nat):List Nat→Bool
 |[]=>false
 |j::l=>bif Nat.beq j k then true else q5q k l
def AV.cells:AV→List AV
 |.agg xs=>xs
 |x=>[x]
def imL:List IV→List AV:=List.map .im
mutual
def AV.pure:AV→Bool
 |.im _=>true
 |.pto _=>true
 |.agg xs=>z3g xs
 |.tup xs=>z3g xs
 |.clo _ xs=>z3g xs
 |.err _=>true
 |_=>false
def z3g:List AV→Bool
 |[]=>true
 |x::l=>x.pure&&z3g l
end
def AV.one:AV→Bool
 |.im (.val v)=>v.oneCell'
 |.im (.ls _)=>true
 |.row _=>true
 |.clo _ _=>true
 |.loc _ _=>true
 |.pto _=>true
 |.err _=>true
 |_=>false
def setAt {α:Type}:List α→Nat→List α→List α
 |l,_,[]=>l
 |[],_,_=>[]
 |_::l,0,y::ys=>y::setAt l 0 ys
 |x::l,n+1,ys=>x::setAt l n ys
abbrev Fit (n:Int):Prop:= -9223372036854775808≤n∧n≤9223372036854775807
abbrev Out:=Option (List Prop×AV×List (Nat×Option q0d))
def yes (x:AV):Out:=some ([],x,[])
def may (p:Prop) (x:AV):Out:=some ([p],x,[])
def q3n:List Prop→Prop
 |[]=>True
 |[p]=>p
 |p::l=>p∧q3n l
def inK:IntKind→Int→Prop
 |.i64,n=>Fit n
 |.u8,n=>0≤n∧n≤255
 |.u64,n=>0≤n∧n≤18446744073709551615
 |.i32,n=> -2147483648≤n∧n≤2147483647
 |.u32,n=>0≤n∧n≤4294967295
 |_,_=>False
def kNo:IntKind→Nat
 |.i64=>1
 |.u8=>2
 |.u64=>3
 |.i32=>4
 |.u32=>5
 |.i8=>6
 |.i16=>7
 |.u16=>8
def u8n:Nat→Option IntKind
 |1=>some .i64
 |2=>some .u8
 |3=>some .u64
 |4=>some .i32
 |5=>some .u32
 |_=>none
abbrev AV.ik (k:IntKind) (n:Int):AV:=.im (.val (.int k n))
def v2i (op:BinOp) (k:IntKind) (a b:Int):Out:=
 match op with
 |.add=>may (inK k (a+b)) (.ik k (a+b))
 |.sub=>may (inK k (a-b)) (.ik k (a-b))
 |.mul=>may (inK k (a*b)) (.ik k (a*b))
 |.eql=>yes (.bool (a==b))
 |.neq=>yes (.bool (a !=b))
 |.lss=>yes (.bool (decide (a<b)))
 |.leq=>yes (.bool (decide (a≤b)))
 |.gtr=>yes (.bool (decide (a>b)))
 |.geq=>yes (.bool (decide (a≥b)))
 |_=>none
def u6q (op:BinOp) (a b:Int):Out:=
 match op with
 |.shr=>may (0≤b∧b≤64) (.int (a/2^b.toNat))
 |.shl=>may (0≤b∧b≤64∧Fit (a*2^b.toNat)) (.int (a*2^b.toNat))
 |_=>none
def x8o:BinOp→Bool
 |.shr=>true
 |.shl=>true
 |_=>false
def x6y (a b:Int):Int:=IntKind.i64.wrap (BitVec.ofInt 64 a&&&BitVec.ofInt 64 b).toNat
def u9w (op:BinOp) (a b:Int):Out:=
 match op with
 |.add=>may (Fit (a+b)) (.int (a+b))
 |.sub=>may (Fit (a-b)) (.int (a-b))
 |.mul=>may (Fit (a*b)) (.int (a*b))
 |.quo=>may (b≠0∧Fit (a.tdiv b)) (.int (a.tdiv b))
 |.rem=>may (b≠0) (.int (a.tmod b))
 |.eql=>yes (.bool (a==b))
 |.neq=>yes (.bool (a !=b))
 |.lss=>yes (.bool (decide (a<b)))
 |.leq=>yes (.bool (decide (a≤b)))
 |.gtr=>yes (.bool (decide (a>b)))
 |.geq=>yes (.bool (decide (a≥b)))
 |.and=>yes (.int (x6y a b))
 |.shr=>u6q .shr a b
 |.shl=>u6q .shl a b
 |_=>none
def v2f (op:BinOp) (a b:Bool):Out:=
 match op with
 |.eql=>yes (.bool (a==b))
 |.neq=>yes (.bool (!(a==b)))
 |_=>none
def v2m (op:BinOp) (a b:ByteArray):Out:=
 match op with
 |.eql=>yes (.bool (a.toList==b.toList))
 |.neq=>yes (.bool (!(a.toList==b.toList)))
 |.add=>may (a.size+b.size≤maxLen) (.im (.val (.string (a++b))))
 |_=>none
def k9p (cx:Cx) (t:Nat):Bool:=match look t cx.ty with|some td=>Nat.ble 50 td.ld|none=>false
def v2r (cx:Cx) (op:BinOp) (t:Nat) (a b:Int):Out:=match op with|.add=>bif k9p cx t then yes (.int (Go.RowKit.wrap64 (a+b)))else u9w .add a b|op=>u9w op a b
def v1i (cx:Cx) (op:BinOp) (t:Nat):List AV→Out
 |[.im (.val (.int .i64 a)),.im (.val (.int .i64 b))]=>v2r cx op t a b
 |[.im (.val (.bool a)),.im (.val (.bool b))]=>match look t cx.ty with|some td=>(bif td.isBool then v2f op a b else none)|none=>none
 |[.im (.val (.string a)),.im (.val (.string b))]=>match look t cx.ty with|some td=>(bif Nat.beq td.ik 9 then v2m op a b else none)|none=>none
 |[.im (.val (.int k a)),.im (.val (.int k' b))]=>bif x8o op then(bif Nat.beq (kNo k) 1 then u6q op a b else none)else bif Nat.beq (kNo k) (kNo k')then v2i op k a b else none
 |_=>none
def j7t (cx:Cx) (nm s d:Nat) (hp:Nat→Option q0d):List AV→Out
 |[.im (.val (.int _ n))]=>match look s cx.ty,look d cx.ty with
  |some _,some dd=>(match u8n dd.ik with|some k=>may (inK k n) (.ik k n)|none=>none)
  |_,_=>none
 |_=>none
def u3b:List AV→Out
 |[.im (.val (.bool b)),.im (.val (.bool p)),.im (.val (.bool q))]=>yes (.bool (bif b then p else q))
 |[.im (.val (.bool b)),.opt c (.im (.val (.bool p))),.im (.val (.bool q))]=>may (b=true→c=true) (.bool (bif b then p else q))
 |[.im (.val (.bool b)),.im (.val (.bool p)),.opt c (.im (.val (.bool q)))]=>may (b=false→c=true) (.bool (bif b then p else q))
 |_=>none
def x8b (cx:Cx) (n t:Nat):List AV→Out
 |[]=>match look t cx.ty with
  |some td=>some ([],.loc n 0,[(n,some (.box (td.zero.map fun v=>.im (.val v))))])
  |none=>none
 |_=>none
def v0k (n:Nat):List AV→Out
 |[.agg xs]=>some ([],.loc n 0,[(n,some (.box xs))])
 |[x]=>bif x.one then some ([],.loc n 0,[(n,some (.box [x]))])else none
 |_=>none
def q9a (td:TD) (cs:List AV):Option AV:=
 bif td.isAgg then(bif Nat.ble td.size cs.length then some (.agg (cs.take td.size))else none)else cs.head?
def q7c:List AV→Option (List Bool)
 |[]=>some []
 |.im (.val (.bool b))::l=>match q7c l with|some m=>some (b::m)|none=>none
 |_::_=>none
def y5m (bs:List Bool) (n:Nat):List AV:=(List.range n).map fun k=>.bool (bs.getD k false)
def k4w (cx:Cx) (t:Nat) (hp:Nat→Option q0d):List AV→Out
 |[.pto xs]=>match look t cx.ty with
  |some td=>match q9a td (imL xs)with|some v=>yes v|none=>none
  |none=>none
 |[.loc r off]=>match look t cx.ty,hp r with
  |some td,some (.box cs)=>match q9a td (cs.drop off)with|some v=>yes v|none=>none
  |_,_=>none
 |[.prow r i 0]=>match look t cx.ty,hp r with
  |some td,some (.row _ l)=>bif td.isAgg|| !Nat.beq l.st 1 then none else may (i<l.len) (.im (l.cell i 0))
  |_,_=>none
 |[.prow r i 1]=>match look t cx.ty,hp r with
  |some td,some (.box cs)=>bif td.isAgg then none else match q7c cs with
   |some bs=>may (i<bs.length) (.bool (bs.getD i false))
   |none=>none
  |_,_=>none
 |_=>none
def x8q (cx:Cx) (t:Nat) (hp:Nat→Option q0d):List AV→Out
 |[.loc r off,x]=>match look t cx.ty,hp r with
  |some td,some (.box cs)=>bif x.cells.all AV.one&&(Nat.beq x.cells.length td.size&&Nat.ble (off+td.size) cs.length)then some ([],.any,[(r,some (.box (setAt cs off x.cells)))])else none
  |_,_=>none
 |[.prow r i 0,.im x]=>match look t cx.ty,hp r with
  |some td,some (.row e l)=>match l.put i x with
   |some l'=>bif Nat.beq td.size 1 then some ([i<l.len],.any,[(r,some (.row e l'))])else none
   |none=>none
  |_,_=>none
 |[.prow r i 0,.row q]=>match look t cx.ty,hp r,hp q with
  |some td,some (.row e l),some (.row _ d)=>match l.put i (.ls d)with
   |some l'=>bif Nat.beq td.size 1&& !Nat.beq q r then some ([i<l.len],.any,[(q,none),(r,some (.row e l'))])else none
   |none=>none
  |_,_,_=>none
 |[.prow r i 1,.im (.val (.bool x))]=>match look t cx.ty,hp r with
  |some td,some (.box cs)=>match q7c cs with
   |some bs=>bif Nat.beq td.size 1 then some ([i<bs.length],.any,[(r,some (.box (y5m (bs.set i x) bs.length)))])else none
   |none=>none
  |_,_=>none
 |_=>none
def z4c (cx:Cx) (t f:Nat):List AV→Out
 |[x]=>match look t cx.ty with
  |some td=>match td.fields[f]? with
   |some (off,ft)=>match look ft cx.ty with
    |some fd=>bif Nat.beq fd.size 0 then none else match x with
     |.loc r o=>yes (.loc r (o+off))
     |.pto xs=>yes (.pto (xs.drop off))
     |_=>none
    |none=>none
   |none=>none
  |none=>none
 |_=>none
def k0j (cx:Cx) (t f:Nat):List AV→Out
 |[.agg xs]=>match look t cx.ty with
  |some td=>match td.fields[f]? with
   |some (off,ft)=>match look ft cx.ty with
    |some fd=>match q9a fd (xs.drop off)with|some v=>yes v|none=>none
    |none=>none
   |none=>none
  |none=>none
 |_=>none
def z1y (cx:Cx) (t:Nat) (l:LD):Bool:=
 match look t cx.ty with
 |some td=>match td.el with
  |some e=>match look e cx.ty with
   |some ed=>Nat.beq ed.size l.st
   |none=>false
  |none=>false
 |none=>false
def u9l (cx:Cx) (t:Nat) (xs:List IV) (i:Int):Out:=
 match look t cx.ty with
 |some td=>match td.elem with
  |some e=>match look e cx.ty with
   |some ed=>bif td.isAgg&&(Nat.ble 20 td.ik&&(Nat.beq xs.length (td.ik-20)&&Nat.beq ed.size 1))then may (0≤i∧i<(xs.length:Int)) (.pto [xs.getD i.toNat (.val undef)])else none
   |none=>none
  |none=>none
 |none=>none
def z4e (cx:Cx) (t:Nat) (hp:Nat→Option q0d):List AV→Out
 |[.row r,.im (.val (.int .i64 i))]=>match hp r with
  |some (.row _ l)=>bif z1y cx t l&&Nat.beq l.st 1 then may (0≤i∧i<l.len) (.prow r i.toNat 0)else none
  |_=>none
 |[.loc r 0,.im (.val (.int .i64 i))]=>match hp r,look t cx.ty with
  |some (.box cs),some td=>match td.elem with
   |some e=>match look e cx.ty with
    |some ed=>bif td.isAgg&&(Nat.ble 20 td.ik&&(Nat.beq cs.length (td.ik-20)&&Nat.beq ed.size 1))then may (0≤i∧i<(cs.length:Int)) (.prow r i.toNat 1)else none
    |none=>none
   |none=>none
  |_,_=>none
 |[.im (.ls l),.im (.val (.int .i64 i))]=>bif z1y cx t l then may (0≤i∧i<l.len) (.pto ((List.range l.st).map fun j=>l.cell i.toNat j))else none
 |[.pto xs,.im (.val (.int .i64 i))]=>u9l cx t xs i
 |_=>none
def isSlice (cx:Cx) (t:Nat):Bool:=match look t cx.ty with|some td=>td.el.isSome|none=>false
def cLen (cx:Cx) (t:Nat) (hp:Nat→Option q0d):List AV→Out
 |[.row r]=>match hp r with
  |some (.row _ l)=>bif isSlice cx t then yes (.int l.len)else none
  |_=>none
 |[.im (.ls l)]=>bif isSlice cx t then yes (.int l.len)else none
 |[.im (.val (.slice _ n _))]=>bif isSlice cx t then yes (.int n)else none
 |_=>none
def v0e:List AV→Out
 |[.im (.val (.int .i64 a)),.im (.val (.int .i64 b))]=>yes (.int (min a b))
 |_=>none
def u9x:List AV→Out
 |[.im (.val (.int .i64 a)),.im (.val (.int .i64 b))]=>yes (.int (max a b))
 |_=>none
def AV.flat:AV→Bool
 |.im (.val (.int _ _))=>true
 |.im (.val (.bool _))=>true
 |.im (.val (.string _))=>true
 |.row _=>true
 |_=>false
mutual
def AV.scalar:AV→Bool
 |.tup xs=>z6s xs
 |.agg xs=>z6s xs
 |.im (.val (.int _ _))=>true
 |.im (.val (.bool _))=>true
 |.im (.val (.string _))=>true
 |.row _=>true
 |.err _=>true
 |_=>false
def z6s:List AV→Bool
 |[]=>true
 |x::l=>x.scalar&&z6s l
end
def LD.flat:LD→Bool
 |.ints _=>true
 |.bools _=>true
 |.bytes _=>true
 |.strs _=>true
 |_=>false
def q0d.scalar:Option q0d→Bool
 |some (.row _ l)=>l.flat
 |some (.box _)=>false
 |some (.other _ _)=>false
 |some (.mset _)=>false
 |some (.mfun _ _)=>false
 |none=>true
def q8m (hp:Nat→Option q0d):List AV→Option (List IV)
 |[]=>some []
 |.im x::l=>(match q8m hp l with|some m=>some (x::m)|none=>none)
 |.row r::l=>(match hp r,q8m hp l with|some (.row _ d),some m=>some (.ls d::m)|_,_=>none)
 |_::_=>none
mutual
def y4i (hp:Nat→Option q0d):AV→AV
 |.row r=>match hp r with|some (.row _ d)=>.im (.ls d)|_=>.any
 |.agg xs=>.agg (k4g hp xs)
 |.any=>.any
 |.im x=>.im x
 |.opt c x=>.opt c x
 |.tup xs=>.tup xs
 |.loc r off=>(match hp r with|some (.box cs)=>(match q8m hp cs with|some xs=>.pto (xs.drop off)|none=>.loc r off)|_=>.loc r off)
 |.pto xs=>.pto xs
 |.prow r i j=>.prow r i j
 |.clo g xs=>.clo g (k4g hp xs)
 |.err b=>.err b
def k4g (hp:Nat→Option q0d):List AV→List AV
 |[]=>[]
 |x::l=>y4i hp x::k4g hp l
end
def j8o:List Nat→List Nat→List Nat
 |acc,[]=>acc
 |acc,r::l=>j8o (bif q5q r acc then acc else acc++[r]) l
def y7j (hp:Nat→Option q0d) (r:Nat):List Nat:=match hp r with|some o=>o.refs|none=>[]
def q4c (hp:Nat→Option q0d):List Nat→List Nat
 |[]=>[]
 |r::l=>y7j hp r++q4c hp l
def z6v (hp:Nat→Option q0d):Nat→List Nat→List Nat
 |0,acc=>acc
 |k+1,acc=>z6v hp k (j8o acc (q4c hp acc))
def q8r (hp:Nat→Option q0d) (xs:List AV):List Nat:=z6v hp 4 (j8o [] (q6l xs))
def y8t (hp:Nat→Option q0d):List Nat→Option (List q0d)
 |[]=>some []
 |r::l=>match hp r,y8t hp l with|some o,some os=>some (o::os)|_,_=>none
def x0w:List Nat→Nat→Nat
 |[],_=>0
 |j::l,r=>bif Nat.beq j r then 0 else x0w l r+1
def k9f:List Nat→List Nat→Bool
 |[],_=>true
 |r::l,m=>q5q r m&&k9f l m
def q3f (names:List Nat) (nm i:Nat):Nat:=match names[i]? with|some r=>r|none=>nm+1000*(i-names.length)
def q8o (f:Nat→Nat):Nat→List (Option q0d)→List (Nat×Option q0d)
 |_,[]=>[]
 |i,o::l=>(f i,o.map (y3g f))::q8o f (i+1) l
def j0z:List Nat→Bool
 |[]=>true
 |r::l=> !q5q r l&&j0z l
def j1q (σ:CtF) (nm:Nat) (hp:Nat→Option q0d) (all:List AV):Out:=
 match y8t hp (q8r hp all)with
 |some os=>
  bif j0z (q8r hp all)&&(k9f (q6l all) (q8r hp all)&&k9f (q4c hp (q8r hp all)) (q8r hp all))then
   (match σ (z0h (x0w (q8r hp all)) all) (os.map (y3g (x0w (q8r hp all))))with
   |some (p,r,outs)=>bif Nat.ble os.length outs.length then some ([p],q8z (q3f (q8r hp all) nm) r,q8o (q3f (q8r hp all) nm) 0 outs)else none
   |none=>none)
  else none
 |none=>none
def x0o (σ:CtF) (nm:Nat) (hp:Nat→Option q0d) (all:List AV):Out:=
 bif z3g (k4g hp all)then
  (match σ (k4g hp all) []with
  |some (p,r,outs)=>bif r.scalar&&outs.all q0d.scalar then some ([p],q8z (q3f [] nm) r,q8o (q3f [] nm) 0 outs)else none
  |none=>none)
 else none
def u4c (cx:Cx) (nm:Nat) (hp:Nat→Option q0d):List AV→Out
 |.clo f caps::args=>bif Nat.blt f bndK then(match look f cx.fn with
  |some σ=>(match j1q σ nm hp (args++caps)with|some x=>some x|none=>x0o σ nm hp (args++caps))
  |none=>none)else(match look (f-bndK) cx.fn with
  |some σ=>(match j1q σ nm hp (caps++args)with|some x=>some x|none=>x0o σ nm hp (caps++args))
  |none=>none)
 |_=>none
def k7f (hp:Nat→Option q0d) (r:Nat):AV→Option LD
 |.im (.ls l)=>some l
 |.row k=>bif Nat.beq k r then none else match hp k with|some (.row _ l)=>some l|_=>none
 |_=>none
def k8l (cx:Cx) (t:Nat):Option (Nat×Nat×Nat):=
 match look t cx.ty with
 |some td=>match td.el with
  |some e=>match look e cx.ty with
   |some ed=>bif Nat.beq ed.size 1&&Nat.blt 0 ed.bytes&&Nat.beq ed.zero.length 1 then some (e,ed.bytes,ed.ld%50)else none
   |none=>none
  |none=>none
 |none=>none
def x3k (cx:Cx) (t:Nat):Option (Nat×Nat×Nat×Nat):=
 match look t cx.ty with
 |some td=>match td.el with
  |some e=>match look e cx.ty with
   |some ed=>bif Nat.blt 0 ed.size&&Nat.blt 0 ed.bytes&&Nat.beq ed.zero.length ed.size then some (e,ed.size,ed.bytes,ed.ld%50)else none
   |none=>none
  |none=>none
 |none=>none
def j4f (cx:Cx) (nm t:Nat) (hp:Nat→Option q0d):List AV→Out
 |[.row r,.im (.val (.slice none 0 0))]=>match x3k cx t,hp r with
  |some (e,sz,_,_),some (.row e' l)=>bif Nat.beq e e'&&Nat.beq l.st sz then some ([],.row nm,[(r,none),(nm,some (.row e l))])else none
  |_,_=>none
 |[.row r,x]=>match x3k cx t,hp r,k7f hp r x with
  |some (e,sz,by_,_),some (.row e' l),some l2=>match l.app l2 with
   |some l3=>bif Nat.beq e e'&&Nat.beq l2.st sz then some ([(l.len+l2.len)*by_≤140737488355328],.row nm,[(r,none),(nm,some (.row e l3))])else none
   |none=>none
  |_,_,_=>none
 |[.im (.val (.slice none 0 0)),x]=>match x3k cx t,k7f hp 5000 x with
  |some (e,sz,by_,_),some l2=>bif Nat.beq l2.st sz then some ([l2.len*by_≤140737488355328],.row nm,[(nm,some (.row e l2))])else none
  |_,_=>none
 |_=>none
def q9h:Nat→List Value→Bool
 |1,[.int .i64 n]=>n==0
 |2,[.bool b]=> !b
 |_,_=>false
def zeroOf (cx:Cx) (e k:Nat):Bool:=match look e cx.ty with|some ed=>q9h k ed.zero|none=>false
def u2d (cx:Cx) (t:Nat):Bool:=match look t cx.ty with|some td=>Nat.beq td.ik 1|none=>false
def z6d (cx:Cx) (nm t t2:Nat) (hp:Nat→Option q0d):List AV→Out
 |[.row r,.im (.val (.int .i64 n))]=>match k8l cx t,hp r with
  |some (e,by_,k),some (.row e' l)=>match LD.zeros k n.toNat with
   |some l2=>match l.app l2 with
    |some l3=>bif Nat.beq e e'&&(Nat.beq l.st 1&&(u2d cx t2&&zeroOf cx e k))then some ([0≤n∧(l.len+n.toNat)*by_≤140737488355328],.row nm,[(r,none),(nm,some (.row e l3))])else none
    |none=>none
   |none=>none
  |_,_=>none
 |_=>none
def z1w (cx:Cx) (nm t t2:Nat) (hp:Nat→Option q0d) (ins:List AV):Out:=z6d cx nm t t2 hp ins
def sl0 (l:LD):List AV→Out
 |[]=>yes (.im (.ls (l.sub 0 l.len)))
 |_=>none
def v1q (l:LD):List AV→Out
 |[.im (.val (.int .i64 a))]=>may (0≤a∧a≤l.len) (.im (.ls (l.sub a.toNat l.len)))
 |_=>none
def v0j (l:LD):List AV→Out
 |[.im (.val (.int .i64 b))]=>may (0≤b∧b≤l.len) (.im (.ls (l.sub 0 b.toNat)))
 |_=>none
def x6p (l:LD):List AV→Out
 |[.im (.val (.int .i64 a)),.im (.val (.int .i64 b))]=>may (0≤a∧a≤b∧b≤l.len) (.im (.ls (l.sub a.toNat b.toNat)))
 |_=>none
def y9m (cx:Cx) (t:Nat) (lo hi mx:Bool):List AV→Out
 |.im (.ls l)::rest=>bif z1y cx t l&& !mx then(bif lo then(bif hi then x6p l rest else v1q l rest)else(bif hi then v0j l rest else sl0 l rest))else none
 |_=>none
def z3r (cx:Cx) (nm t:Nat):List AV→Out
 |[.im (.val (.int .i64 n)),.im (.val (.int .i64 c))]=>match k8l cx t with
  |some (e,by_,k)=>match LD.zeros k n.toNat with
   |some l=>bif !(match look e cx.ty with|some ed=>q9h k ed.zero|none=>false)then none else some ([0≤n∧n≤c∧c.toNat*by_≤140737488355328],.row nm,[(nm,some (.row e l))])
   |none=>none
  |none=>none
 |_=>none
def v1h (hp:Nat→Option q0d):AV→Option IV
 |.im x=>some x
 |.row r=>match hp r with|some (.row _ l)=>some (.ls l)|_=>none
 |_=>none
def x5p (hp:Nat→Option q0d):List AV→Option (List IV)
 |[]=>some []
 |x::l=>match v1h hp x,x5p hp l with|some y,some m=>some (y::m)|_,_=>none
def u8o (hp:Nat→Option q0d) (k:Nat):List AV→Option LD
 |[]=>LD.none k
 |x::l=>bif x.cells.all AV.one then
  (match x5p hp x.cells with
  |some cs=>(match LD.one k cs,u8o hp k l with|some a,some b=>a.app b|_,_=>none)
  |none=>none)
  else none
def z2l:List AV→List Nat
 |[]=>[]
 |.row r::l=>r::z2l l
 |.agg xs::l=>q6l xs++z2l l
 |_::l=>z2l l
def u4l (ins:List AV):List (Nat×Option q0d):=(z2l ins).map fun r=>(r,none)
def u9c:LD→Bool
 |.bytes _=>true
 |_=>false
def u6b (cx:Cx) (t:Nat) (l:LD):Bool:=u9c l||(Nat.beq l.st 1&&(match look t cx.ty with|some td=>Nat.ble 50 td.ld|none=>false))
def z0x (cx:Cx) (nm t n:Nat) (ix:List Nat) (hp:Nat→Option q0d) (ins:List AV):Out:=
 match x3k cx t with
 |some (e,sz,_,k)=>
  bif Nat.beq n 0 then(match LD.none k,ix with|some l,[]=>bif Nat.beq l.st sz then some ([],.row nm,[(nm,some (.row e l))])else none|_,_=>none)
  else bif eqL ix (List.range n)&&Nat.ble (n*sz) 16777216 then(match u8o hp k ins with|some l=>bif Nat.beq l.len n&&Nat.beq l.st sz then(bif u6b cx t l then some ([],.row nm,u4l ins++[(nm,some (.row e l))])else some ([],.im (.ls l),u4l ins))else none|none=>none)else none
 |none=>none
def z2n (td:TD):List Nat→List AV→List AV→Option (List AV)
 |[],[],cs=>some cs
 |f::fs,x::xs,cs=>match td.fields[f]? with
  |some (off,_)=>bif x.cells.all AV.one&&Nat.ble (off+x.cells.length) cs.length then z2n td fs xs (setAt cs off x.cells)else none
  |none=>none
 |_,_,_=>none
def z0z (cx:Cx) (td:TD):List Nat→List AV→Bool
 |[],[]=>true
 |f::fs,x::xs=>(match td.fields[f]? with|some (_,ft)=>(match look ft cx.ty with|some fd=>Nat.beq x.cells.length fd.size|none=>false)|none=>false)&&z0z cx td fs xs
 |_,_=>false
def y9b (cx:Cx) (td:TD):Bool:=td.fields.all fun x=>(look x.2 cx.ty).isSome
def x7x (cx:Cx) (t:Nat) (ix:List Nat) (ins:List AV):Out:=
 match look t cx.ty with
 |some td=>bif Nat.blt 0 td.fields.length&&y9b cx td&&z0z cx td ix ins then(match z2n td ix ins (td.zero.map fun v=>.im (.val v))with|some cs=>yes (.agg cs)|none=>none)else none
 |none=>none
def z7g (fn:Fn) (first:Nat) (ins:List AV):Out:=
 match fn,first with
 |.func f,0=>bif Nat.blt f bndK then yes (.clo f ins)else none
 |.func f,n+1=>bif Nat.blt f bndK&&Nat.beq ins.length (n+1)then yes (.clo (f+bndK) ins)else none
 |_,_=>none
def j7o (k:Nat):List AV→Out
 |[.tup xs]=>match xs[k]? with|some x=>yes x|none=>none
 |_=>none
def k6w:List AV→Out
 |[x]=>yes x
 |_=>none
def v1g:List AV→Out
 |[.loc r off]=>yes (.loc r off)
 |[.pto xs]=>yes (.pto xs)
 |_=>none
def v0t:List AV→Out
 |[.im (.val (.bool b))]=>yes (.bool (!b))
 |_=>none
def v1s:List AV→Out
 |[.im (.val (.int .i64 n))]=>may (Fit (-n)) (.int (-n))
 |_=>none
def k9b (cx:Cx) (t:Nat) (ins:List AV):Out:=none
def y3a (cx:Cx) (t:Nat):Option Nat:=match look t cx.ty with|some td=>bif Nat.beq td.ik 10 then some td.ld else none|none=>none
def u2m (cx:Cx) (t:Nat) (hp:Nat→Option q0d):List AV→Out
 |[.row r]=>(match y3a cx t,hp r with|some _,some (.mset ks)=>some ([ks.length≤maxLen],.int ks.length,[])|_,_=>none)
 |_=>none
def x6z (cx:Cx) (t:Nat) (hp:Nat→Option q0d) (ins:List AV):Out:=match cLen cx t hp ins with|some x=>some x|none=>(match k9b cx t ins with|some x=>some x|none=>u2m cx t hp ins)
def j6w (cx:Cx) (n t:Nat):List AV→Out
 |[]=>(match y3a cx t with|some _=>some ([],.row n,[(n,some (.mset []))])|none=>none)
 |[.im (.val (.int .i64 _))]=>(match y3a cx t with|some _=>some ([],.row n,[(n,some (.mset []))])|none=>none)
 |_=>none
def j6i (cx:Cx) (t:Nat) (hp:Nat→Option q0d):List AV→Out
 |[.row r,.im (.val (.int .i64 k)),.im (.val (.bool b))]=>(match y3a cx t,hp r with
  |some _,some (.mset ks)=>some ([b=true],.any,[(r,some (.mset (u7v ks k)))])
  |_,_=>none)
 |[.row r,.im (.val (.int .i64 k)),.clo f xs]=>(match y3a cx t,hp r with
  |some _,some (.mset [])=>some ([],.any,[(r,some (.mfun [k] [.clo f xs]))])
  |some _,some (.mfun ks cs)=>bif ks.all fun j=> !decide (j=k)then some ([],.any,[(r,some (.mfun (ks++[k]) (cs++[.clo f xs])))])else none
  |_,_=>none)
 |_=>none
def k4l (cx:Cx) (e:Nat):Bool:=match look e cx.ty with|some ed=>(match ed.zero with|[.bool false]=>true|_=>false)|none=>false
def x2y (k:Int):List Int→List AV→Option AV
 |j::ks,c::cs=>bif decide (j=k)then some c else x2y k ks cs
 |_,_=>none
def y6o (cx:Cx) (t:Nat) (ok:Bool) (hp:Nat→Option q0d):List AV→Out
 |[.row r,.im (.val (.int .i64 k))]=>(match y3a cx t,hp r with
  |some e,some (.mset ks)=>bif k4l cx e then yes (bif ok then .tup [.bool (ks.contains k),.bool (ks.contains k)]else .bool (ks.contains k))else none
  |some _,some (.mfun ks cs)=>bif ok then none else(match x2y k ks cs with|some x=>yes x|none=>none)
  |_,_=>none)
 |_=>none
def y6e (cx:Cx) (t:Nat) (ins:List AV):Out:=none
def k1c (cx:Cx) (t:Nat) (lo hi mx:Bool) (ins:List AV):Out:=none
def j4q (cx:Cx) (t:Nat) (lo hi mx:Bool) (ins:List AV):Out:=match y9m cx t lo hi mx ins with|some x=>some x|none=>k1c cx t lo hi mx ins
def x6n (cx:Cx) (t:Nat) (lo hi mx:Bool) (hp:Nat→Option q0d):List AV→Out
 |.row r::rest=>match hp r with
  |some (.row _ l)=>(match y9m cx t lo hi mx (.im (.ls l)::rest)with|some (ps,v,[])=>some (ps,v,[(r,none)])|_=>none)
  |_=>none
 |_=>none
def y7m (cx:Cx) (t:Nat) (lo hi mx:Bool) (hp:Nat→Option q0d) (ins:List AV):Out:=match j4q cx t lo hi mx ins with|some x=>some x|none=>x6n cx t lo hi mx hp ins
def v1w (cx:Cx) (op:BinOp) (t:Nat) (y:Operand):List AV→Out
 |[.err b,.im (.val .nilIface)]=>(match op,y,look t cx.ty with|.neq,.const .nilIface,some td=>bif Nat.beq td.ik 11 then yes (.bool b)else none|_,_,_=>none)
 |_=>none
def u4x (cx:Cx) (op:BinOp) (t:Nat) (y:Operand) (ins:List AV):Out:=match v1i cx op t ins with|some r=>some r|none=>v1w cx op t y ins
def core (cx:Cx) (n:Nat) (op:Op) (ins:List AV) (hp:Nat→Option q0d):Out:=
 match op with
 |.move _=>k6w ins
 |.assign _=>k6w ins
 |.nilCheck _=>v1g ins
 |.pick .. =>u3b ins
 |.alloc t=>x8b cx n t ins
 |.box _ _=>v0k n ins
 |.load t _=>k4w cx t hp ins
 |.store t _ _=>x8q cx t hp ins
 |.binOp op t _ y _=>u4x cx op t y ins
 |.unOp .not _ _=>v0t ins
 |.unOp .neg _ _=>v1s ins
 |.convert s d _=>j7t cx n s d hp ins
 |.fieldAddr t _ f=>z4c cx t f ins
 |.field t _ f=>k0j cx t f ins
 |.indexAddr t _ _=>z4e cx t hp ins
 |.extract _ k=>j7o k ins
 |.slice t _ lo hi mx=>y7m cx t lo.isSome hi.isSome mx.isSome hp ins
 |.index t _ _=>y6e cx t ins
 |.makeSlice t _ _=>z3r cx n t ins
 |.makeMap t r=>j6w cx n t ins
 |.mapUpdate t _ _ _=>j6i cx t hp ins
 |.insert t _ _ _=>j6i cx t hp ins
 |.lookup t _ _ ok=>y6o cx t ok hp ins
 |.buildSlice t len parts=>z0x cx n t len (parts.toList.map (·.1)) hp ins
 |.build t parts=>x7x cx t (parts.toList.map (·.1)) ins
 |.makeFunc fn first _=>z7g fn first.size ins
 |.call c=>
  match c.callee with
  |.builtin .len=>(match c.argTypes with|⟨[t]⟩=>x6z cx t hp ins|_=>none)
  |.builtin .min=>v0e ins
  |.builtin .max=>u9x ins
  |.builtin .append=>(match c.argTypes with|⟨[t,t']⟩=>bif Nat.beq t t' then j4f cx n t hp ins else z1w cx n t t' hp ins|_=>none)
  |.value _=>u4c cx n hp ins
  |_=>none
 |_=>none
def AV.strip:AV→List Bool×AV
 |.opt c x=>([c],x)
 |x=>([],x)
def stripL:List AV→List Bool×List AV
 |[]=>([],[])
 |x::l=>((x.strip.1++(stripL l).1),x.strip.2::(stripL l).2)
def eqT:List Bool→List Prop
 |[]=>[]
 |c::l=>(c=true)::eqT l
def y9q (g:Bool):List Prop→List Prop
 |[]=>[]
 |p::l=>(g=true→p)::y9q g l
def u0q:Op→Bool
 |.pick .. =>true
 |_=>false
def q3q (op:Op) (ins:List AV):List Bool×List AV:=
 bif u0q op then(match ins with
  |c::l=>(c.strip.1,c.strip.2::l)
  |[]=>([],[]))
 else stripL ins
def guardOf (want:Bool):AV→Option Bool
 |.im (.val (.bool b))=>some (bif want then b else !b)
 |.opt c (.im (.val (.bool b)))=>some (c&&(bif want then b else !b))
 |_=>none
def x7i (ops:Array Oper) (j:Nat):Option Nat:=match ops[j]? with|some o=>o.dst|none=>none
def q1i (n r:Nat):Bool:=Nat.ble n r&&Nat.beq ((r-n)%1000) 0
def z3y (n:Nat) (rs:List Nat):List (Nat×Option q0d)→Bool
 |[]=>true
 |(r,_)::l=>(q1i n r||q5q r rs)&&z3y n rs l
def inL (rs:List Nat) (hp:Nat→Option q0d):Nat→Option q0d:=fun r=>bif q5q r rs then hp r else none
def q9g (S:St) (o:Oper):List AV:=o.op.operands.toList.map S.ev
def z8b:Op→Bool
 |.call c=>match c.callee with|.value _=>true|_=>false
 |_=>false
def readsOf (S:St) (o:Oper):List Nat:=bif z8b o.op then q8r S.heap (q9g S o)else q6l (q9g S o)
def u8p (ops:Array Oper) (nm:Nat) (rs:List Nat) (cs:List Bool) (env:Nat→AV) (guard:Option (Nat×Bool)):Out→Out
 |none=>none
 |some (p,v,hs)=>
  bif z3y nm rs hs then
   match guard with
   |none=>some (eqT cs++p,v,hs)
   |some jw=>
    match x7i ops jw.1 with
    |none=>none
    |some d=>
     match guardOf jw.2 (env d),hs with
     |some g,[]=>some (y9q g (eqT cs++p),.opt g v,[])
     |some g,_::_=>some ((g=true)::(eqT cs++p),v,hs)
     |none,_=>none
  else none
def q1f (cx:Cx) (ops:Array Oper) (nm:Nat) (o:Oper) (S:St):Out:=
 u8p ops nm (readsOf S o) (q3q o.op (q9g S o)).1 S.env o.guard (core cx nm o.op (q3q o.op (q9g S o)).2 (inL (readsOf S o) S.heap))
def St.put (S:St) (dst:Option Nat) (v:AV) (hs:List (Nat×Option q0d)):St:=
 ⟨match dst with|some d=>upd S.env d v|none=>S.env,hs.foldl (fun h x=>upd h x.1 x.2) S.heap⟩
def x5k (cx:Cx) (ops:Array Oper):List (Nat×Oper)→St→Option (List Prop×St)
 |[],S=>some ([],S)
 |(i,o)::l,S=>
  match q1f cx ops (1000+i) o S with
  |some (p,v,hs)=>
   match x5k cx ops l (S.put o.dst v hs)with
   |some (q,S')=>some (p++q,S')
   |none=>none
  |none=>none
def q2v {α:Type}:Nat→List α→List (Nat×α)
 |_,[]=>[]
 |n,x::l=>(n,x)::q2v (n+1) l
end
end Go.Proofs.YteikjpbbhopkaaaGreatDoor.En
namespace Go.Proofs.YteikjpbbhopkaaaGreatDoor.En
section
open Go
inductive Rep (W:World) (G:Nat→Prop):IV→Value→Prop
 |val (v:Value):Rep W G (.val v) v
 |nil (l:LD) (A:Option Addr) (c:Nat):l.len=0→Rep W G (.ls l) (.slice A 0 c)
 |ls (l:LD) (b off c:Nat) (u:Nat→Nat→Value):l.len≤c→l.len≤maxLen→G b→
  (∀i j,i<l.len→j<l.st→W.cell? ⟨b,off+i*l.st+j,none⟩=some (u i j))→
  (∀i j,i<l.len→j<l.st→Rep W G (l.cell i j) (u i j))→Rep W G (.ls l) (.slice (some ⟨b,off,none⟩) l.len c)
theorem Rep.mono {W W':World} {G G':Nat→Prop} (hk:∀b,G b→W'.heap[b]? =W.heap[b]?) (hg:∀b,G b→G' b) {x:IV} {v:Value} (h:Rep W G x v):Rep W' G' x v:=by
 induction h with
 |val v=>exact .val v
 |nil l A c h=>exact .nil l A c h
 |ls l b off c u h1 h2 h3 h4 _ ih=>exact .ls l b off c u h1 h2 (hg b h3) (fun i j hi hj=>(World.cell?_of_block (hk b h3)).trans (h4 i j hi hj)) ih
theorem Rep.cases_ls {W:World} {G:Nat→Prop} {l:LD} {v:Value} (h:Rep W G (.ls l) v):
 (l.len=0∧∃A c,v=.slice A 0 c)∨∃(b off c:Nat) (u:Nat→Nat→Value),v=.slice (some ⟨b,off,none⟩) l.len c∧l.len≤c∧l.len≤maxLen∧G b∧
  (∀i j,i<l.len→j<l.st→W.cell? ⟨b,off+i*l.st+j,none⟩=some (u i j))∧(∀i j,i<l.len→j<l.st→Rep W G (l.cell i j) (u i j)):=by
 generalize hx:IV.ls l=x at h
 cases h with
 |val v=>cases hx
 |nil l' A c h=>cases hx;exact .inl ⟨h,A,c,rfl⟩
 |ls l' b off c u h1 h2 h3 h4 h5=>cases hx;exact .inr ⟨b,off,c,u,rfl,h1,h2,h3,h4,h5⟩
theorem Rep.lenMax {W:World} {G:Nat→Prop} {l:LD} {v:Value} (h:Rep W G (.ls l) v):l.len≤maxLen:=by
 rcases h.cases_ls with⟨h,_⟩|⟨_,_,_,_,_,_,h,_⟩
 ·rw[h];exact Qc1 _
 ·exact h
theorem Rep.slice {W:World} {G:Nat→Prop} {l:LD} {v:Value} (h:Rep W G (.ls l) v):∃A c,v=.slice A l.len c∧l.len≤c:=by
 rcases h.cases_ls with⟨h,A,c,e⟩|⟨b,off,c,_,e,h,_⟩
 ·exact⟨A,c,by rw[e,h],by rw[h];exact Qc1 _⟩
 ·exact⟨_,c,e,h⟩
structure Gh where
 W:World
 G:Nat→Prop
 β:Nat→Value
 U:Nat→Prop
def u6m (f:Nat) (vs:Array Value):Value:=bif Nat.blt f bndK then .func (.func f) #[] vs else .func (.func (f-bndK)) vs #[]
theorem z1u {f:Nat} {vs:Array Value} (h:Nat.blt f bndK=true):u6m f vs=.func (.func f) #[] vs:=by unfold u6m;rw[h];rfl
theorem k9i {f:Nat} {vs:Array Value} (h:Nat.blt f bndK=false):u6m f vs=.func (.func (f-bndK)) vs #[]:=by unfold u6m;rw[h];rfl
mutual
def Den (g:Gh):AV→Value→Prop
 |.any,_=>True
 |.im x,v=>Rep g.W g.G x v
 |.opt c x,v=>(c=true→Den g x v)∧(c=false→v=undef)
 |.agg xs,v=>∃vs:List Value,v=.agg vs.toArray∧q0e g xs vs
 |.tup xs,v=>∃vs:List Value,v=.tuple vs.toArray∧q0e g xs vs
 |.loc r off,v=>g.U r∧∃b,g.β r=.pointer (some ⟨b,0,none⟩)∧v=.pointer (some ⟨b,off,none⟩)
 |.pto xs,v=>∃b off,v=.pointer (some ⟨b,off,none⟩)∧g.G b∧∀j x,xs[j]? =some x→∃u,g.W.cell? ⟨b,off+j,none⟩=some u∧Rep g.W g.G x u
 |.row r,v=>g.U r∧v=g.β r∧((∃A n c,v=.slice A n c)∨∃b,v=.map (some b))
 |.prow r i 0,v=>g.U r∧∃b off n c,g.β r=.slice (some ⟨b,off,none⟩) n c∧i<n∧v=.pointer (some ⟨b,off+i,none⟩)
 |.prow r i (_+1),v=>g.U r∧∃b,g.β r=.pointer (some ⟨b,0,none⟩)∧v=.pointer (some ⟨b,i,none⟩)
 |.clo f xs,v=>∃vs:List Value,v=u6m f vs.toArray∧q0e g xs vs
 |.err b,v=>if b=true then∃te pe,v=.iface te pe else v=.nilIface
def q0e (g:Gh):List AV→List Value→Prop
 |[],vs=>vs=[]
 |x::l,vs=>∃v vs',vs=v::vs'∧Den g x v∧q0e g l vs'
end
structure Gh.le (g g':Gh):Prop where
 keep:∀b,g.G b→g'.W.heap[b]? =g.W.heap[b]?
 grow:∀b,g.G b→g'.G b
 name:∀r,g.U r→g'.U r∧g'.β r=g.β r
theorem Gh.le.refl (g:Gh):g.le g:=⟨fun _ _=>rfl,fun _ h=>h,fun _ h=>⟨h,rfl⟩⟩
theorem Gh.le.trans {g g' g'':Gh} (h:g.le g') (h':g'.le g''):g.le g'':=
 ⟨fun b hb=>(h'.keep b (h.grow b hb)).trans (h.keep b hb),fun b hb=>h'.grow b (h.grow b hb),fun r hr=>⟨(h'.name r (h.name r hr).1).1,(h'.name r (h.name r hr).1).2.trans (h.name r hr).2⟩⟩
theorem Gh.le.rep {g g':Gh} (h:g.le g') {x:IV} {v:Value} (hr:Rep g.W g.G x v):Rep g'.W g'.G x v:=hr.mono h.keep h.grow
mutual
theorem Den.mono {g g':Gh} (h:g.le g'):∀(x:AV) (v:Value),Den g x v→Den g' x v
 |.any,_,_=>by simp only[Den]
 |.im x,v,hd=>by simp only[Den]at hd⊢;exact h.rep hd
 |.opt c x,v,hd=>by simp only[Den]at hd⊢;exact⟨fun hc=>Den.mono h x v (hd.1 hc),hd.2⟩
 |.agg xs,v,hd=>by simp only[Den]at hd⊢;obtain⟨vs,e,hl⟩:=hd;exact⟨vs,e,q0e.mono h xs vs hl⟩
 |.tup xs,v,hd=>by simp only[Den]at hd⊢;obtain⟨vs,e,hl⟩:=hd;exact⟨vs,e,q0e.mono h xs vs hl⟩
 |.loc r off,v,hd=>by simp only[Den]at hd⊢;obtain⟨hu,b,e,e'⟩:=hd;exact⟨(h.name r hu).1,b,(h.name r hu).2.trans e,e'⟩
 |.pto xs,v,hd=>by
  simp only[Den]at hd⊢
  obtain⟨b,off,e,hb,hc⟩:=hd
  exact⟨b,off,e,h.grow b hb,fun j x hx=>let⟨u,h1,h2⟩:=hc j x hx;⟨u,(World.cell?_of_block (h.keep b hb)).trans h1,h.rep h2⟩⟩
 |.row r,v,hd=>by simp only[Den]at hd⊢;exact⟨(h.name r hd.1).1,hd.2.1.trans (h.name r hd.1).2.symm,hd.2.2⟩
 |.prow r i 0,v,hd=>by simp only[Den]at hd⊢;obtain⟨hu,b,off,n,c,e,hi,e'⟩:=hd;exact⟨(h.name r hu).1,b,off,n,c,(h.name r hu).2.trans e,hi,e'⟩
 |.prow r i (_+1),v,hd=>by simp only[Den]at hd⊢;obtain⟨hu,b,e,e'⟩:=hd;exact⟨(h.name r hu).1,b,(h.name r hu).2.trans e,e'⟩
 |.clo f xs,v,hd=>by simp only[Den]at hd⊢;obtain⟨vs,e,hl⟩:=hd;exact⟨vs,e,q0e.mono h xs vs hl⟩
 |.err b,v,hd=>by simp only[Den]at hd⊢;exact hd
theorem q0e.mono {g g':Gh} (h:g.le g'):∀(xs:List AV) (vs:List Value),q0e g xs vs→q0e g' xs vs
 |[],vs,hd=>by simp only[q0e]at hd⊢;exact hd
 |x::l,vs,hd=>by simp only[q0e]at hd⊢;obtain⟨v,vs',e,h1,h2⟩:=hd;exact⟨v,vs',e,Den.mono h x v h1,q0e.mono h l vs' h2⟩
end
mutual
theorem Den.pure {g g':Gh} (hW:g'.W=g.W) (hG:g'.G=g.G):∀(x:AV) (v:Value),x.pure=true→Den g x v→Den g' x v
 |.any,_,hp,_=>by simp[AV.pure]at hp
 |.im x,v,_,hd=>by simp only[Den]at hd⊢;rw[hW,hG];exact hd
 |.opt c x,v,hp,_=>by simp[AV.pure]at hp
 |.agg xs,v,hp,hd=>by simp only[Den]at hd⊢;obtain⟨vs,e,hl⟩:=hd;exact⟨vs,e,q0e.pure hW hG xs vs (by simpa[AV.pure]using hp) hl⟩
 |.tup xs,v,hp,hd=>by simp only[Den]at hd⊢;obtain⟨vs,e,hl⟩:=hd;exact⟨vs,e,q0e.pure hW hG xs vs (by simpa[AV.pure]using hp) hl⟩
 |.loc r off,v,hp,_=>by simp[AV.pure]at hp
 |.pto xs,v,_,hd=>by simp only[Den]at hd⊢;rw[hW,hG];exact hd
 |.row r,v,hp,_=>by simp[AV.pure]at hp
 |.prow r i j,v,hp,_=>by simp[AV.pure]at hp
 |.clo f xs,v,hp,hd=>by simp only[Den]at hd⊢;obtain⟨vs,e,hl⟩:=hd;exact⟨vs,e,q0e.pure hW hG xs vs (by simpa[AV.pure]using hp) hl⟩
 |.err b,v,_,hd=>by simp only[Den]at hd⊢;exact hd
theorem q0e.pure {g g':Gh} (hW:g'.W=g.W) (hG:g'.G=g.G):∀(xs:List AV) (vs:List Value),z3g xs=true→q0e g xs vs→q0e g' xs vs
 |[],vs,_,hd=>by simp only[q0e]at hd⊢;exact hd
 |x::l,vs,hp,hd=>by
  simp only[q0e]at hd⊢
  simp only[z3g,Qa2]at hp
  obtain⟨v,vs',e,h1,h2⟩:=hd
  exact⟨v,vs',e,Den.pure hW hG x v hp.1 h1,q0e.pure hW hG l vs' hp.2 h2⟩
end
mutual
theorem Den.map {g g':Gh} {f:Nat→Nat} (hW:g'.W=g.W) (hG:g'.G=g.G):∀(x:AV) (v:Value),(∀r∈x.refs,g.U r→g'.U (f r)∧g'.β (f r)=g.β r)→Den g x v→Den g' (q8z f x) v
 |.any,_,_,_=>by simp only[q8z,Den]
 |.im x,v,_,hd=>by simp only[q8z,Den]at hd⊢;rw[hW,hG];exact hd
 |.opt c x,v,hf,hd=>by simp only[q8z,Den]at hd⊢;exact⟨fun hc=>Den.map hW hG x v (by simpa only[AV.refs]using hf) (hd.1 hc),hd.2⟩
 |.agg xs,v,hf,hd=>by simp only[q8z,Den]at hd⊢;obtain⟨vs,e,hl⟩:=hd;exact⟨vs,e,q0e.map hW hG xs vs (by simpa only[AV.refs]using hf) hl⟩
 |.tup xs,v,hf,hd=>by simp only[q8z,Den]at hd⊢;obtain⟨vs,e,hl⟩:=hd;exact⟨vs,e,q0e.map hW hG xs vs (by simpa only[AV.refs]using hf) hl⟩
 |.loc r off,v,hf,hd=>by
  simp only[q8z,Den]at hd⊢
  obtain⟨hu,b,e,e'⟩:=hd
  have:=hf r (by simp[AV.refs]) hu
  exact⟨this.1,b,this.2.trans e,e'⟩
 |.pto xs,v,_,hd=>by simp only[q8z,Den]at hd⊢;rw[hW,hG];exact hd
 |.row r,v,hf,hd=>by
  simp only[q8z,Den]at hd⊢
  have:=hf r (by simp[AV.refs]) hd.1
  exact⟨this.1,hd.2.1.trans this.2.symm,hd.2.2⟩
 |.prow r i 0,v,hf,hd=>by
  simp only[q8z,Den]at hd⊢
  obtain⟨hu,b,off,n,c,e,hi,e'⟩:=hd
  have:=hf r (by simp[AV.refs]) hu
  exact⟨this.1,b,off,n,c,this.2.trans e,hi,e'⟩
 |.prow r i (_+1),v,hf,hd=>by
  simp only[q8z,Den]at hd⊢
  obtain⟨hu,b,e,e'⟩:=hd
  have:=hf r (by simp[AV.refs]) hu
  exact⟨this.1,b,this.2.trans e,e'⟩
 |.clo k xs,v,hf,hd=>by simp only[q8z,Den]at hd⊢;obtain⟨vs,e,hl⟩:=hd;exact⟨vs,e,q0e.map hW hG xs vs (by simpa only[AV.refs]using hf) hl⟩
 |.err b,v,_,hd=>by simp only[q8z,Den]at hd⊢;exact hd
theorem q0e.map {g g':Gh} {f:Nat→Nat} (hW:g'.W=g.W) (hG:g'.G=g.G):∀(xs:List AV) (vs:List Value),(∀r∈q6l xs,g.U r→g'.U (f r)∧g'.β (f r)=g.β r)→q0e g xs vs→q0e g' (z0h f xs) vs
 |[],vs,_,hd=>by simp only[z0h,q0e]at hd⊢;exact hd
 |x::l,vs,hf,hd=>by
  simp only[z0h,q0e]at hd⊢
  obtain⟨v,vs',e,h1,h2⟩:=hd
  simp only[q6l,Qf4]at hf
  exact⟨v,vs',e,Den.map hW hG x v (fun r hr=>hf r (.inl hr)) h1,q0e.map hW hG l vs' (fun r hr=>hf r (.inr hr)) h2⟩
end
mutual
theorem y3e:∀x:AV,q8z id x=x
 |.any=>by simp only[q8z]
 |.im x=>by simp only[q8z]
 |.opt c x=>by simp only[q8z,y3e x]
 |.agg xs=>by simp only[q8z,q5w xs]
 |.tup xs=>by simp only[q8z,q5w xs]
 |.loc r off=>by simp only[q8z,id]
 |.pto xs=>by simp only[q8z]
 |.row r=>by simp only[q8z,id]
 |.prow r i j=>by simp only[q8z,id]
 |.clo k xs=>by simp only[q8z,q5w xs]
 |.err b=>by simp only[q8z]
theorem q5w:∀xs:List AV,z0h id xs=xs
 |[]=>by simp only[z0h]
 |x::l=>by simp only[z0h,y3e x,q5w l]
end
section
variable {g:Gh}
theorem q0e.length:∀{xs:List AV} {vs:List Value},q0e g xs vs→vs.length=xs.length
 |[],vs,h=>by simp only[q0e]at h;rw[h];rfl
 |x::l,vs,h=>by simp only[q0e]at h;obtain⟨v,vs',e,_,h2⟩:=h;rw[e,Qa8,Qa8,h2.length]
theorem q0e.get:∀{xs:List AV} {vs:List Value} {k:Nat} {x:AV},q0e g xs vs→xs[k]? =some x→∃v,vs[k]? =some v∧Den g x v
 |[],_,_,_,_,h=>by simp at h
 |y::l,vs,k,x,hd,h=>by
  simp only[q0e]at hd
  obtain⟨v,vs',e,h1,h2⟩:=hd
  subst e
  rcases k with _|k
  ·simp at h;subst h;exact⟨v,by simp,h1⟩
  ·simp at h;obtain⟨u,hu,hx⟩:=h2.get h;exact⟨u,by simpa using hu,hx⟩
theorem q0e.drop:∀{xs:List AV} {vs:List Value} (k:Nat),q0e g xs vs→q0e g (xs.drop k) (vs.drop k)
 |xs,vs,0,h=>by simpa using h
 |[],vs,k+1,h=>by simp only[q0e]at h;subst h;simp[q0e]
 |x::l,vs,k+1,h=>by simp only[q0e]at h;obtain⟨v,vs',e,_,h2⟩:=h;subst e;simpa using h2.drop k
theorem q0e.take:∀{xs:List AV} {vs:List Value} (k:Nat),q0e g xs vs→q0e g (xs.take k) (vs.take k)
 |xs,vs,0,h=>by simp[q0e]
 |[],vs,k+1,h=>by simp only[q0e]at h;subst h;simp[q0e]
 |x::l,vs,k+1,h=>by simp only[q0e]at h;obtain⟨v,vs',e,h1,h2⟩:=h;subst e;simp only[Qj2,q0e];exact⟨v,_,rfl,h1,h2.take k⟩
theorem q0e.append:∀{xs ys:List AV} {vs us:List Value},q0e g xs vs→q0e g ys us→q0e g (xs++ys) (vs++us)
 |[],ys,vs,us,h,h'=>by simp only[q0e]at h;subst h;simpa using h'
 |x::l,ys,vs,us,h,h'=>by simp only[q0e]at h;obtain⟨v,vs',e,h1,h2⟩:=h;subst e;simp only[Qc9,q0e];exact⟨v,_,rfl,h1,h2.append h'⟩
theorem q0e.setAt:∀{xs ys:List AV} {vs us:List Value} (k:Nat),q0e g xs vs→q0e g ys us→k+ys.length≤xs.length→q0e g (setAt xs k ys) (setAt vs k us)
 |xs,[],vs,us,k,h,h',_=>by
  simp only[q0e]at h';subst h'
  cases xs<;>cases vs<;>simpa[Go.Proofs.YteikjpbbhopkaaaGreatDoor.En.setAt]using h
 |[],y::ys,vs,us,k,h,h',hl=>by simp at hl
 |x::l,y::ys,vs,us,0,h,h',hl=>by
  simp only[q0e]at h h'
  obtain⟨v,vs',e,h1,h2⟩:=h
  obtain⟨u,us',e',h1',h2'⟩:=h'
  subst e e'
  simp only[Go.Proofs.YteikjpbbhopkaaaGreatDoor.En.setAt,q0e]
  exact⟨u,_,rfl,h1',h2.setAt 0 h2' (by simp at hl;omega)⟩
 |x::l,y::ys,vs,us,k+1,h,h',hl=>by
  simp only[q0e]at h
  obtain⟨v,vs',e,h1,h2⟩:=h
  have hu:=h'.length
  subst e
  cases us with
  |nil=>simp at hu
  |cons u us=>
   simp only[Go.Proofs.YteikjpbbhopkaaaGreatDoor.En.setAt,q0e]
   exact⟨v,_,rfl,h1,h2.setAt k h' (by simp at hl⊢;omega)⟩
theorem q4w {x:AV} {vs:List Value} (h:q0e g [x] vs):∃v,vs=[v]∧Den g x v:=by
 simp only[q0e]at h
 obtain⟨v,vs',e,h1,e'⟩:=h
 exact⟨v,by rw[e,e'],h1⟩
theorem q4u {x y:AV} {vs:List Value} (h:q0e g [x,y] vs):∃v u,vs=[v,u]∧Den g x v∧Den g y u:=by
 simp only[q0e]at h
 obtain⟨v,vs',e,h1,u,vs'',e',h2,e''⟩:=h
 exact⟨v,u,by rw[e,e',e''],h1,h2⟩
theorem y5w {x y z:AV} {vs:List Value} (h:q0e g [x,y,z] vs):∃v u t,vs=[v,u,t]∧Den g x v∧Den g y u∧Den g z t:=by
 simp only[q0e]at h
 obtain⟨v,vs',e,h1,u,vs'',e',h2,t,vs3,e3,h3,e4⟩:=h
 exact⟨v,u,t,by rw[e,e',e3,e4],h1,h2,h3⟩
theorem q0b {x v:Value} (h:Den g (.im (.val x)) v):v=x:=by simp only[Den]at h;cases h;rfl
theorem q0g (x:Value):Den g (.im (.val x)) x:=by simp only[Den];exact .val x
theorem z7k:∀(l:List Value),q0e g (l.map fun v=>.im (.val v)) l
 |[]=>by simp[q0e]
 |v::l=>by simp only[Qc6,q0e];exact⟨v,l,rfl,q0g v,z7k l⟩
end
end
end Go.Proofs.YteikjpbbhopkaaaGreatDoor.En
namespace Go.Proofs.YteikjpbbhopkaaaGreatDoor.En
section
open Go Go.RowKit
theorem q4x {a b:Nat} (h:a≠b):Nat.beq a b=false:=by
 cases hx:Nat.beq a b with
 |false=>rfl
 |true=>exact absurd (Qb0 hx) h
theorem q6x (a:Nat):Nat.beq a a=true:=Nat.beq_refl a
def q1k:Value→Option Nat
 |.pointer (some a)=>some a.block
 |.slice (some a) _ _=>some a.block
 |.map (some b)=>some b
 |_=>none
theorem q7g {w:World} {e:TypeId} {v:Value} {xs:List Value} (h:Own w e v xs):q1k v=v.ownBlock:=by
 rcases h with⟨rfl,_⟩|⟨g,off,cap,cur,rfl,_⟩<;>rfl
def q5a (w:World) (e:TypeId) (st:Nat) (v:Value) (n:Nat) (xs:List Value):Prop:=
 if st=1 then Own w e v xs∧xs.length=n else 0<st∧w.ownsRow 0 e st v n xs
section
variable {w w':World} {e st n:Nat} {v:Value} {xs:List Value}
theorem q5a.one (h:q5a w e 1 v n xs):Own w e v xs∧xs.length=n:=by unfold q5a at h;rwa [if_pos rfl]at h
theorem q5a.of_one (h:Own w e v xs) (hn:xs.length=n):q5a w e 1 v n xs:=by unfold q5a;rw[if_pos rfl];exact⟨h,hn⟩
theorem q5a.len (h:q5a w e st v n xs):xs.length=n*st:=by
 unfold q5a at h
 split at h
 ·rename_i e1;rw[e1,Qf6];exact h.2
 ·exact h.2.1
theorem q5a.pos (h:q5a w e st v n xs):0<st:=by
 unfold q5a at h
 split at h
 ·omega
 ·exact h.1
theorem q5a.nil (w:World) (e:TypeId) {st:Nat} (hst:0<st):q5a w e st (.slice none 0 0) 0 []:=by
 unfold q5a
 split
 ·exact⟨Own.nil w e,rfl⟩
 ·exact⟨hst,World.ownsRow_nil w 0 e st⟩
theorem q5a.blk (h:q5a w e st v n xs):q1k v=v.ownBlock:=by
 unfold q5a at h
 split at h
 ·exact q7g h.1
 ·rcases h.2.2 with⟨rfl,_⟩|⟨g,cap,cur,rfl,_⟩<;>rfl
theorem q5a.lt (h:q5a w e st v n xs) {g:Nat} (hg:v.ownBlock=some g):g<w.heap.size:=by
 unfold q5a at h
 split at h
 ·exact h.1.lt hg
 ·exact(h.2.lt g hg).2
theorem q5a.keep (h:q5a w e st v n xs) (hk:∀g,v.ownBlock=some g→w'.heap[g]? =w.heap[g]?):q5a w' e st v n xs:=by
 unfold q5a at h⊢
 split at h
 ·rename_i e1;rw[if_pos e1];exact⟨h.1.keep hk,h.2⟩
 ·rename_i e1
  rw[if_neg e1]
  refine⟨h.1,h.2.1,?_⟩
  rcases h.2.2 with h|⟨g,cap,cur,rfl,h1,h2,h3⟩
  ·exact .inl h
  ·exact .inr ⟨g,cap,cur,rfl,h1,(hk g rfl).trans h2,h3⟩
theorem q5a.form (h:q5a w e st v n xs):∃A cap,v=.slice A n cap∧n≤cap:=by
 unfold q5a at h
 split at h
 ·obtain⟨A,cap,h1,h2⟩:=h.1.form
  rw[h.2]at h1 h2
  exact⟨A,cap,h1,h2⟩
 ·rcases h.2.2 with⟨rfl,rfl⟩|⟨g,cap,cur,rfl,_,_,h3,_⟩
  ·exact⟨none,0,rfl,Qb8 _⟩
  ·exact⟨_,cap,rfl,h3⟩
theorem q5a.cells (h:q5a w e st v n xs):(v=.slice none 0 0∧n=0)∨∃b off cap,v=.slice (some ⟨b,off,none⟩) n cap∧n≤cap∧∀j (hj:j<xs.length),w.cell? ⟨b,off+j,none⟩=some xs[j]:=by
 unfold q5a at h
 split at h
 ·obtain⟨ho,hn⟩:=h
  rcases ho with⟨rfl,hx⟩|⟨b,off,cap,cur,rfl,hw,h1,h2,h3,h4⟩
  ·exact .inl ⟨rfl,by rw[←hn,hx];rfl⟩
  ·refine .inr ⟨b,off,cap,by rw[hn],by omega,fun j hj=>?_⟩
   rw[hw.cell (off+j)]
   exact h4 j hj
 ·obtain⟨hst,ho⟩:=h
  have hc:=fun g (hg:v.ownBlock=some g)=>ho.cells hg
  rcases ho.2 with⟨rfl,rfl⟩|⟨b,cap,cur,rfl,h1,hw,h2,h3,h4,h5⟩
  ·exact .inl ⟨rfl,rfl⟩
  ·refine .inr ⟨b,0,cap,rfl,h2,fun j hj=>?_⟩
   have:=hc b rfl j xs[j] (Qa0 hj)
   rw[q5c]at this
   exact this
end
def z2a (g:Gh) (v:Value):q0d→Prop
 |.box cs=>∃b t arr,v=.pointer (some ⟨b,0,none⟩)∧g.W.heap[b]? =some (.cells arr t (0,0))∧q0e g cs arr.toList
 |.other b o=>v=.pointer (some ⟨b,0,none⟩)∧g.W.heap[b]? =some o
 |.mset ks=>∃b,v=.map (some b)∧j7m g.W b (x4g ks)
 |.mfun ks cs=>∃b us,v=.map (some b)∧us.length=ks.length∧j7m g.W b (ks.zip us)∧q0e g cs us
 |.row e l=>∃xs,q5a g.W e l.st v l.len xs∧l.len≤maxLen∧∀i j,i<l.len→j<l.st→Rep g.W g.G (l.cell i j) (xs.getD (i*l.st+j) undef)
structure Base where
 w:World
 O:Nat→Prop
 m:Nat
 β:Nat→Value
 ds:List Deferred
def Base.mine (B:Base) (b:Nat):Prop:=B.w.heap.size≤b∨B.O b
def y8r (W:World) (k:Nat) (xs:List Value):Prop:=
 (glw k=0→(∀(j:Nat) (x:Value),xs[j]? =some x→W.cell? ⟨k,j,none⟩=some x)∧∃t m,W.heap[k]? =some (.cells xs.toArray t m))∧(glw k=1→∃n,W.cell? ⟨k,0,none⟩=some (.int .i64 n))∧(glw k=2→∃te pe,W.cell? ⟨k,0,none⟩=some (.iface te pe))
theorem y8r.keep {W W':World} {k:Nat} {xs:List Value} (h:y8r W k xs) (hk:W'.heap[k]? =W.heap[k]?):y8r W' k xs:=
 ⟨fun h0=>⟨fun j x hx=>(World.cell?_of_block hk).trans ((h.1 h0).1 j x hx),(h.1 h0).2.imp fun t q=>q.imp fun m q=>hk.trans q⟩,fun h1=>(h.2.1 h1).imp fun n q=>(World.cell?_of_block hk).trans q,fun h2=>(h.2.2 h2).imp fun te q=>q.imp fun pe q=>(World.cell?_of_block hk).trans q⟩
def j2i (g:Gh):Prop:=∀k xs,look k glb=some xs→g.G k∧y8r g.W k xs
theorem j2i.up {g g':Gh} (h:j2i g) (hle:g.le g'):j2i g':=fun k xs hk=>
 ⟨hle.grow k (h k xs hk).1,(h k xs hk).2.keep (hle.keep k (h k xs hk).1)⟩
structure MOk (w0:Base) (G0:Nat→Prop) (g:Gh) (H:Nat→Option q0d):Prop where
 ok:∀r o,H r=some o→g.U r∧z2a g (g.β r) o
 sep:∀r r' o o' b,H r=some o→H r'=some o'→q1k (g.β r)=some b→q1k (g.β r')=some b→r=r'
 own:∀r o b,H r=some o→q1k (g.β r)=some b→¬g.G b∧w0.mine b
 gb:∀b,g.G b→b<g.W.heap.size∧(G0 b∨w0.mine b)
 bel:Kp w0.O w0.w g.W
 anc:(∀r,r<w0.m→g.U r∧g.β r=w0.β r)∧j2i g
theorem z2a.lt {g:Gh} {v:Value} {o:q0d} (h:z2a g v o) {b:Nat} (hb:q1k v=some b):b<g.W.heap.size:=by
 cases o with
 |box cs=>
  obtain⟨b',t,arr,rfl,hw,_⟩:=h
  simp[q1k]at hb
  subst hb
  exact(Array.getElem?_eq_some_iff.1 hw).1
 |other b' o=>
  obtain⟨rfl,hw⟩:=h
  simp[q1k]at hb
  subst hb
  exact(Array.getElem?_eq_some_iff.1 hw).1
 |mset ks=>
  obtain⟨b',rfl,hw⟩:=h
  simp[q1k]at hb
  subst hb
  exact hw.lt
 |mfun ks cs=>
  obtain⟨b',us,rfl,_,hw,_⟩:=h
  simp[q1k]at hb
  subst hb
  exact hw.lt
 |row e l=>
  obtain⟨xs,ho,_⟩:=h
  exact ho.lt (by rw[←ho.blk];exact hb)
theorem z2a.up {g g':Gh} (hle:g.le g') {v:Value} (hb:∀b,q1k v=some b→g'.W.heap[b]? =g.W.heap[b]?) {o:q0d} (h:z2a g v o):z2a g' v o:=by
 cases o with
 |box cs=>
  obtain⟨b,t,arr,rfl,hw,hd⟩:=h
  exact⟨b,t,arr,rfl,(hb b rfl).trans hw,hd.mono hle⟩
 |other b o=>
  obtain⟨rfl,hw⟩:=h
  exact⟨rfl,(hb b rfl).trans hw⟩
 |mset ks=>
  obtain⟨b,rfl,hw⟩:=h
  exact⟨b,rfl,hw.keep (hb b rfl)⟩
 |mfun ks cs=>
  obtain⟨b,us,rfl,hl,hw,hd⟩:=h
  exact⟨b,us,rfl,hl,hw.keep (hb b rfl),hd.mono hle⟩
 |row e l=>
  obtain⟨xs,ho,h2,h4⟩:=h
  exact⟨xs,ho.keep (fun b hx=>hb b (by rw[ho.blk];exact hx)),h2,fun i j hi hj=>hle.rep (h4 i j hi hj)⟩
theorem MOk.anc_up {w0:Base} {G0:Nat→Prop} {g g':Gh} {H:Nat→Option q0d} (h:MOk w0 G0 g H) (hle:g.le g'):(∀r,r<w0.m→g'.U r∧g'.β r=w0.β r)∧j2i g':=⟨fun r hr=>
 ⟨(hle.name r (h.anc.1 r hr).1).1,(hle.name r (h.anc.1 r hr).1).2.trans (h.anc.1 r hr).2⟩,h.anc.2.up hle⟩
section
variable {w0:Base} {G0:Nat→Prop} {g g':Gh} {H:Nat→Option q0d}
theorem MOk.up (h:MOk w0 G0 g H) (hle:g.le g') (hk:∀b,b<g.W.heap.size→g'.W.heap[b]? =g.W.heap[b]?) (hG:∀b,g'.G b→g.G b∨g.W.heap.size≤b∧b<g'.W.heap.size)
 (hbel:Kp w0.O w0.w g'.W) (hsz:g.W.heap.size≤g'.W.heap.size):MOk w0 G0 g' H where
 ok r o hr:=by
  obtain⟨hu,ho⟩:=h.ok r o hr
  rw[(hle.name r hu).2]
  exact⟨(hle.name r hu).1,ho.up hle fun b hb=>hk b (ho.lt hb)⟩
 sep r r' o o' b hr hr' hb hb':=by
  rw[(hle.name r (h.ok r o hr).1).2]at hb
  rw[(hle.name r' (h.ok r' o' hr').1).2]at hb'
  exact h.sep r r' o o' b hr hr' hb hb'
 own r o b hr hb:=by
  rw[(hle.name r (h.ok r o hr).1).2]at hb
  have hlt:=(h.ok r o hr).2.lt hb
  refine⟨fun hg=>?_,(h.own r o b hr hb).2⟩
  rcases hG b hg with h1|h1
  ·exact(h.own r o b hr hb).1 h1
  ·omega
 gb b hb:=by
  rcases hG b hb with h1|h1
  ·exact⟨by have:=(h.gb b h1).1;omega,(h.gb b h1).2⟩
  ·exact⟨h1.2,.inr (.inl (by have:=h.bel.size;omega))⟩
 bel:=hbel
 anc:=h.anc_up hle
end
def Eff (P:Program) (ρ:Operand→Value) (o:Oper) (W:World) (K:Value→World→Prop):Prop:=
 match(execOp ρ o).run P W with
 |.ok (.value u) W'=>K u W'
 |.ok .skip W'=>K undef W'
 |.ok (.enter f args) W'=>Calls P f args W' (fun e W''=>∃u,e=.returned u∧K u W'')
 |_=>False
def FR (r:Option Nat):Fence:={Fence.wide with round:=r}
theorem q2p {r:Option Nat} {n:Nat} {P:Program} {f:FuncId} {args:Array Value} {w:World} {R:Ending→World→Prop}:CallsIn (FR r) n P f args w R↔Calls P f args w R:=
 callsIn_wide (n:=n)
theorem u2r (r:Option Nat) (n:Nat):(FR r).room n:=room_wide n
theorem y6c {r:Option Nat} {n m:Nat} {P:Program} {c:Code} {Q:Exit→Act→World→Prop} {a:Act} {w:World} (h:c.wpIn (FR r) n P Q a w):c.wpIn (FR r) m P Q a w:=
 fun b k cs hro hb _=>h b k cs hro hb (u2r r _)
abbrev Wp (r:Option Nat) (P:Program) (c:Code) (Q:Exit→Act→World→Prop) (a:Act) (w:World):Prop:=c.wpIn (FR r) 3 P Q a w
theorem Eff.wpIn {rd:Option Nat} {P:Program} {o:Oper} {a:Act} {W:World} {K:Value→World→Prop} {N:Act→World→Prop} {Q:Exit→Act→World→Prop} (h:Eff P a.eval o W K) (hnd:∀c,o.op≠.defer c)
 (hk:∀u W',K u W'→N (a.put o.dst u) W'):o.wpIn (FR rd) 3 P a W N Q:=by
 refine⟨fun _ _=>trivial,?_⟩
 rw[Oper.semAt_eq _ _ _ hnd]
 unfold Eff at h
 generalize (execOp a.eval o).run P W=r at h⊢
 match r,h with
 |.ok (.value u) W',h=>exact hk u W' h
 |.ok .skip W',h=>exact hk _ W' h
 |.ok (.enter f args) W',h=>
  refine⟨fun hd=>(by cases hd),q2p.2 (Calls.mono h fun e w'' he=>?_)⟩
  obtain⟨u,rfl,hu⟩:=he
  exact hk u w'' hu
theorem Eff.of_run {P:Program} {ρ:Operand→Value} {o:Oper} {W W':World} {u:Value} {K:Value→World→Prop} (h:(execOp ρ o).run P W=.ok (.value u) W') (hk:K u W'):Eff P ρ o W K:=by
 unfold Eff;rw[h];exact hk
theorem Eff.of_skip {P:Program} {ρ:Operand→Value} {o:Oper} {W W':World} {K:Value→World→Prop} (h:(execOp ρ o).run P W=.ok .skip W') (hk:K undef W'):Eff P ρ o W K:=by
 unfold Eff;rw[h];exact hk
def Good (w0:Base) (G0:Nat→Prop) (g:Gh) (nm:Nat) (H':Nat→Option q0d) (v:AV) (u:Value) (W':World):Prop:=
 ∃g':Gh,g'.W=W'∧g.le g'∧(∀r,g'.U r↔(g.U r∨r=nm))∧MOk w0 G0 g' H'∧Den g' v u
def q2e (H:Nat→Option q0d) (hs:List (Nat×Option q0d)):Nat→Option q0d:=hs.foldl (fun h x=>upd h x.1 x.2) H
def Gh.plus (g:Gh) (nm:Nat):Gh:={g with U:=fun r=>g.U r∨r=nm}
theorem Gh.le_plus (g:Gh) (nm:Nat):g.le (g.plus nm):=⟨fun _ _=>rfl,fun _ h=>h,fun _ h=>⟨.inl h,rfl⟩⟩
theorem MOk.plus {w0:Base} {G0:Nat→Prop} {g:Gh} {H:Nat→Option q0d} (h:MOk w0 G0 g H) (nm:Nat):MOk w0 G0 (g.plus nm) H:=
 h.up (g.le_plus nm) (fun _ _=>rfl) (fun _ h=>.inl h) h.bel (Qb8 _)
theorem q0m {w0:Base} {G0:Nat→Prop} {g:Gh} {H:Nat→Option q0d} {nm:Nat} {v:AV} {u:Value} (h:MOk w0 G0 g H) (hd:Den g v u):Good w0 G0 g nm H v u g.W:=
 ⟨g.plus nm,rfl,g.le_plus nm,fun _=>Iff.rfl,h.plus nm,Den.mono (g.le_plus nm) _ _ hd⟩
theorem y7r {w0:Base} {G0:Nat→Prop} {g:Gh} {H:Nat→Option q0d} {nm:Nat} {cs:List AV} {us:List Value} {t:TypeId} (h:MOk w0 G0 g H) (hn:¬g.U nm) (hd:q0e g cs us):
 Good w0 G0 g nm (q2e H [(nm,some (.box cs))]) (.loc nm 0) (.pointer (some ⟨g.W.heap.size,0,none⟩)) (g.W.alloc (.cells us.toArray t)):=by
 have hne:∀r,g.U r→r≠nm:=fun r hr e=>hn (e▸hr)
 have hHn:∀r o,H r=some o→r≠nm:=fun r o hr=>hne r (h.ok r o hr).1
 let g':Gh:=⟨g.W.alloc (.cells us.toArray t),g.G,fun r=>if r=nm then .pointer (some ⟨g.W.heap.size,0,none⟩)else g.β r,fun r=>g.U r∨r=nm⟩
 have hkeep:∀b,b<g.W.heap.size→g'.W.heap[b]? =g.W.heap[b]? :=fun b hb=>Below.heap_alloc g.W _ b hb
 have hle:g.le g':=⟨fun b hb=>hkeep b (h.gb b hb).1,fun _ hb=>hb,fun r hr=>⟨.inl hr,if_neg (hne r hr)⟩⟩
 have hb1:g'.β nm=.pointer (some ⟨g.W.heap.size,0,none⟩):=if_pos rfl
 have hb2:∀r,r≠nm→g'.β r=g.β r:=fun r hr=>if_neg hr
 have hupd:∀r o,q2e H [(nm,some (.box cs))] r=some o→(r=nm∧o=.box cs)∨(r≠nm∧H r=some o):=by
  intro r o hr
  simp only[q2e,Qe2,Qm6,upd]at hr
  by_cases e:r=nm
  ·subst e;simp at hr;exact .inl ⟨rfl,hr.symm⟩
  ·have:Nat.beq r nm=false:=q4x e
   rw[this]at hr
   exact .inr ⟨e,hr⟩
 refine⟨g',rfl,hle,fun _=>Iff.rfl,⟨?_,?_,?_,?_,?_,h.anc_up hle⟩,?_⟩
 ·intro r o hr
  rcases hupd r o hr with⟨rfl,rfl⟩|⟨hr',ho⟩
  ·rw[hb1]
   exact⟨.inr rfl,g.W.heap.size,t,us.toArray,rfl,heap_alloc_new _ _,by simpa using hd.mono hle⟩
  ·obtain⟨hu,hok⟩:=h.ok r o ho
   rw[hb2 r hr']
   exact⟨.inl hu,hok.up hle fun b hb=>hkeep b (hok.lt hb)⟩
 ·intro r r' o o' b hr hr' hb hb'
  rcases hupd r o hr with⟨rfl,rfl⟩|⟨hn1,ho⟩<;>rcases hupd r' o' hr' with⟨rfl,rfl⟩|⟨hn2,ho'⟩
  ·rfl
  ·rw[hb1]at hb
   rw[hb2 _ hn2]at hb'
   have:=(h.ok r' o' ho').2.lt hb'
   simp[q1k]at hb
   omega
  ·rw[hb1]at hb'
   rw[hb2 _ hn1]at hb
   have:=(h.ok r o ho).2.lt hb
   simp[q1k]at hb'
   omega
  ·rw[hb2 _ hn1]at hb
   rw[hb2 _ hn2]at hb'
   exact h.sep r r' o o' b ho ho' hb hb'
 ·intro r o b hr hb
  rcases hupd r o hr with⟨rfl,rfl⟩|⟨hn1,ho⟩
  ·rw[hb1]at hb
   simp[q1k]at hb
   subst hb
   exact⟨fun hg=>by have:=(h.gb _ hg).1;omega,.inl h.bel.size⟩
  ·rw[hb2 _ hn1]at hb
   exact h.own r o b ho hb
 ·intro b hb
  have:=h.gb b hb
  exact⟨by show b<(g.W.alloc _).heap.size;simp;omega,this.2⟩
 ·exact h.bel.alloc _
 ·simp only[Den]
  exact⟨.inr rfl,g.W.heap.size,hb1,rfl⟩
theorem j2f {w0:Base} {G0:Nat→Prop} {g:Gh} {H:Nat→Option q0d} {nm r b:Nat} {cs cs':List AV} {us':List Value} {arr:Array Value} {t:TypeId} (h:MOk w0 G0 g H)
 (hr:H r=some (.box cs)) (hb:g.β r=.pointer (some ⟨b,0,none⟩)) (hw:g.W.heap[b]? =some (.cells arr t (0,0))) (hd:q0e g cs' us'):
 Good w0 G0 g nm (q2e H [(r,some (.box cs'))]) .any undef (g.W.setRow b us'.toArray):=by
 have hnG:¬g.G b:=(h.own r _ b hr (by rw[hb];rfl)).1
 let g':Gh:=⟨g.W.setRow b us'.toArray,g.G,g.β,fun x=>g.U x∨x=nm⟩
 have hkeep:∀k,k≠b→g'.W.heap[k]? =g.W.heap[k]? :=fun k hk=>setRow_other g.W b k _ hk
 have hle:g.le g':=⟨fun k hk=>hkeep k (fun e=>hnG (e▸hk)),fun _ hb=>hb,fun r hr=>⟨.inl hr,rfl⟩⟩
 have hupd:∀x o,q2e H [(r,some (.box cs'))] x=some o→(x=r∧o=.box cs')∨(x≠r∧H x=some o):=by
  intro x o hx
  simp only[q2e,Qe2,Qm6,upd]at hx
  by_cases e:x=r
  ·subst e;simp at hx;exact .inl ⟨rfl,hx.symm⟩
  ·have:Nat.beq x r=false:=q4x e
   rw[this]at hx
   exact .inr ⟨e,hx⟩
 have hsome:∀x o,q2e H [(r,some (.box cs'))] x=some o→∃o',H x=some o':=fun x o hx=>by
  rcases hupd x o hx with⟨rfl,_⟩|⟨_,h1⟩
  ·exact⟨_,hr⟩
  ·exact⟨_,h1⟩
 refine⟨g',rfl,hle,fun _=>Iff.rfl,⟨?_,?_,?_,?_,?_,h.anc_up hle⟩,by simp only[Den]⟩
 ·intro x o hx
  rcases hupd x o hx with⟨rfl,rfl⟩|⟨hx',ho⟩
  ·exact⟨.inl (h.ok _ _ hr).1,b,t,us'.toArray,hb,setRow_heap g.W b arr _ t (0,0) hw,by simpa using hd.mono hle⟩
  ·obtain⟨hu,hok⟩:=h.ok x o ho
   exact⟨.inl hu,hok.up hle fun k hk=>hkeep k (fun e=>hx' (h.sep x r o _ b ho hr (e▸hk) (by rw[hb];rfl)))⟩
 ·intro x x' o o' k hx hx' hk hk'
  obtain⟨p,hp⟩:=hsome x o hx
  obtain⟨p',hp'⟩:=hsome x' o' hx'
  exact h.sep x x' p p' k hp hp' hk hk'
 ·intro x o k hx hk
  obtain⟨p,hp⟩:=hsome x o hx
  exact h.own x p k hp hk
 ·intro k hk
  have:=h.gb k hk
  exact⟨by show k<(g.W.setRow b _).heap.size;simpa[World.setRow]using this.1,this.2⟩
 ·refine⟨h.bel.os,h.bel.tape,h.bel.output,by simpa[g',World.setRow]using h.bel.size,fun k hk hn=>?_⟩
  have hb0:=(h.own r _ b hr (by rw[hb];rfl)).2
  refine(hkeep k (fun e=>?_)).trans (h.bel.block k hk hn)
  subst e
  rcases hb0 with h0|h0
  ·omega
  ·exact hn h0
theorem x9w {w0:Base} {G0:Nat→Prop} {g:Gh} {H:Nat→Option q0d} {nm:Nat} {v:AV} {u:Value} {W':World} (h:MOk w0 G0 g H) (hb:Below g.W.heap.size g.W W')
 (hd:Den ⟨W',fun b=>g.G b∨(g.W.heap.size≤b∧b<W'.heap.size),fun _=>undef,fun _=>False⟩ v u):Good w0 G0 g nm H v u W':=by
 let g':Gh:=⟨W',fun b=>g.G b∨(g.W.heap.size≤b∧b<W'.heap.size),g.β,fun x=>g.U x∨x=nm⟩
 have hle:g.le g':=⟨fun b hg=>hb.block b (h.gb b hg).1,fun _ hg=>.inl hg,fun r hr=>⟨.inl hr,rfl⟩⟩
 refine⟨g',rfl,hle,fun _=>Iff.rfl,h.up hle (fun b hlt=>hb.block b hlt) (fun _ hx=>hx) ?_ hb.size,?_⟩
 ·exact⟨hb.os.trans h.bel.os,hb.tape.trans h.bel.tape,hb.output.trans h.bel.output,Qc0 h.bel.size hb.size,fun k hk hn=>(hb.block k (Qc2 hk h.bel.size)).trans (h.bel.block k hk hn)⟩
 ·refine Den.mono (g':=g') ?_ _ _ hd
  exact⟨fun _ _=>rfl,fun _ h=>h,fun _ h=>False.elim h⟩
end
end Go.Proofs.YteikjpbbhopkaaaGreatDoor.En
namespace Go.Proofs.YteikjpbbhopkaaaGreatDoor.En
section
open Go Go.RowKit
theorem q3p {α:Type} (xs ys:List α) (i:Nat) (d:α) (h:i<xs.length):(xs++ys).getD i d=xs.getD i d:=by
 simp[List.getD,Qe3 h]
theorem q3m {α:Type} (xs ys:List α) (i:Nat) (d:α):(xs++ys).getD (xs.length+i) d=ys.getD i d:=by
 simp[List.getD,Qe5]
theorem j5o {l l2 l3:LD} (h:l.app l2=some l3):l3.len=l.len+l2.len∧l3.st=l.st∧l2.st=l.st∧(∀i j,i<l.len→l3.cell i j=l.cell i j)∧∀i j,l3.cell (l.len+i) j=l2.cell i j:=by
 cases l<;>cases l2<;>simp only[LD.app]at h<;>cases h
 all_goals
  refine⟨by simp[LD.len],rfl,rfl,fun i j hi=>?_,fun i j=>?_⟩
  ·simp only[LD.cell,LD.len]at hi⊢;rw[q3p _ _ _ _ hi]
  ·simp only[LD.cell,LD.len];rw[q3m]
theorem x0b {l l':LD} {i:Nat} {x:IV} (h:l.put i x=some l') (hi:i<l.len):l'.len=l.len∧l'.st=1∧l.st=1∧(∀j,l'.cell i j=x)∧∀k j,k≠i→l'.cell k j=l.cell k j:=by
 unfold LD.put at h
 split at h
 all_goals first|cases h|skip
 all_goals
  refine⟨by simp[LD.len],rfl,rfl,fun j=>?_,fun k j hk=>?_⟩
  ·simp only[LD.len]at hi
   simp[LD.cell,List.getD,hi]
  ·simp[LD.cell,List.getD,Ne.symm hk]
theorem k7e {α:Type} (xs:List α) (a b i:Nat) (d:α) (h:a+i<b):((xs.take b).drop a).getD i d=xs.getD (a+i) d:=by
 simp[List.getD,Qh4,h]
theorem k6n (l:LD) {a b:Nat} (hab:a≤b) (hb:b≤l.len):(l.sub a b).len=b-a∧(l.sub a b).st=l.st∧∀i j,i<b-a→(l.sub a b).cell i j=l.cell (a+i) j:=by
 cases l
 all_goals
  simp only[LD.len]at hb
  refine⟨by simp[LD.sub,LD.len];omega,rfl,fun i j hi=>?_⟩
  simp only[LD.sub,LD.cell]
  rw[k7e _ _ _ _ _ (by omega)]
theorem j7d {W:World} {G:Nat→Prop} {l:LD} {i j:Nat} {u:Value} (h:Rep W G (l.cell i j) u):u.oneCell'=true:=by
 have hls:∀d:LD,Rep W G (.ls d) u→u.oneCell'=true:=fun d hd=>by obtain⟨A,c,rfl,_⟩:=hd.slice;rfl
 have hval:∀x:Value,x.oneCell'=true→Rep W G (.val x) u→u.oneCell'=true:=fun x hx hd=>by
  generalize hy:IV.val x=y at hd
  cases hd with
  |val v=>cases hy;exact hx
  |nil _ _ _ _=>cases hy
  |ls _ _ _ _ _ _ _ _ _ _=>cases hy
 cases l with
 |ints xs=>exact hval _ rfl h
 |bools xs=>exact hval _ rfl h
 |intss xs=>exact hls _ h
 |bytes xs=>exact hval _ rfl h
 |strs xs=>exact hval _ rfl h
 |trees xs=>
  simp only[LD.cell]at h
  unfold j5i at h
  split at h
  ·exact hval _ rfl h
  ·exact hval _ rfl h
  ·exact hval _ rfl h
  ·exact hls _ h
 |lins xs=>
  simp only[LD.cell]at h
  unfold x8g at h
  split at h
  ·exact hls _ h
  ·exact hls _ h
  ·exact hval _ rfl h
 |undos xs=>
  simp only[LD.cell]at h
  unfold y8f at h
  split at h
  ·exact hval _ rfl h
  ·exact hls _ h
 |lines xs=>
  simp only[LD.cell]at h
  unfold y9i at h
  split at h
  ·exact hval _ rfl h
  ·exact hls _ h
section
variable {w0:Base} {G0:Nat→Prop} {g:Gh} {H H':Nat→Option q0d} {nm e:Nat} {l:LD} {v:Value} {xs:List Value} {W':World} {ob:Option Nat}
theorem k2q (h:MOk w0 G0 g H) (hn:¬g.U nm) (hg:g.W.grownBy W' ob) (hob:∀b,ob=some b→¬g.G b∧w0.mine b)
 (hH:∀x o,H' x=some o→(x=nm∧o=.row e l)∨(x≠nm∧H x=some o∧∀b,ob=some b→q1k (g.β x)≠some b))
 (ho:q5a W' e l.st v l.len xs) (hmx:l.len≤maxLen) (hc:∀i j,i<l.len→j<l.st→Rep g.W g.G (l.cell i j) (xs.getD (i*l.st+j) undef))
 (hv:∀b,q1k v=some b→ob=some b∨g.W.heap.size≤b):Good w0 G0 g nm H' (.row nm) v W':=by
 have hne:∀r,g.U r→r≠nm:=fun r hr e=>hn (e▸hr)
 let g':Gh:=⟨W',g.G,fun r=>if r=nm then v else g.β r,fun r=>g.U r∨r=nm⟩
 have hkeep:∀b,b<g.W.heap.size→ob≠some b→W'.heap[b]? =g.W.heap[b]? :=fun b hb hx=>hg.block b hb (fun e=>hx e.symm)
 have hkG:∀b,g.G b→W'.heap[b]? =g.W.heap[b]? :=fun b hb=>hkeep b (h.gb b hb).1 (fun e=>(hob b e).1 hb)
 have hle:g.le g':=⟨hkG,fun _ hb=>hb,fun r hr=>⟨.inl hr,if_neg (hne r hr)⟩⟩
 have hb1:g'.β nm=v:=if_pos rfl
 have hb2:∀r,r≠nm→g'.β r=g.β r:=fun r hr=>if_neg hr
 obtain⟨A,cap,hform,_⟩:=ho.form
 refine⟨g',rfl,hle,fun _=>Iff.rfl,⟨?_,?_,?_,?_,?_,h.anc_up hle⟩,?_⟩
 ·intro r o hr
  rcases hH r o hr with⟨rfl,rfl⟩|⟨hr',ho',hx⟩
  ·rw[hb1]
   exact⟨.inr rfl,xs,ho,hmx,fun i j hi hj=>hle.rep (hc i j hi hj)⟩
  ·obtain⟨hu,hok⟩:=h.ok r o ho'
   rw[hb2 r hr']
   exact⟨.inl hu,hok.up hle fun b hb=>hkeep b (hok.lt hb) (fun e=>hx b e hb)⟩
 ·intro r r' o o' b hr hr' hb hb'
  rcases hH r o hr with⟨rfl,rfl⟩|⟨hn1,ho1,hx1⟩<;>rcases hH r' o' hr' with⟨rfl,rfl⟩|⟨hn2,ho2,hx2⟩
  ·rfl
  ·rw[hb1]at hb
   rw[hb2 _ hn2]at hb'
   rcases hv b hb with e|e
   ·exact absurd hb' (hx2 b e)
   ·have:=(h.ok r' o' ho2).2.lt hb';omega
  ·rw[hb1]at hb'
   rw[hb2 _ hn1]at hb
   rcases hv b hb' with e|e
   ·exact absurd hb (hx1 b e)
   ·have:=(h.ok r o ho1).2.lt hb;omega
  ·rw[hb2 _ hn1]at hb
   rw[hb2 _ hn2]at hb'
   exact h.sep r r' o o' b ho1 ho2 hb hb'
 ·intro r o b hr hb
  rcases hH r o hr with⟨rfl,rfl⟩|⟨hn1,ho1,_⟩
  ·rw[hb1]at hb
   rcases hv b hb with e|e
   ·exact hob b e
   ·exact⟨fun hG=>by have:=(h.gb _ hG).1;omega,.inl (Qc0 h.bel.size e)⟩
  ·rw[hb2 _ hn1]at hb
   exact h.own r o b ho1 hb
 ·intro b hb
  have:=h.gb b hb
  exact⟨Qc2 this.1 hg.size,this.2⟩
 ·refine⟨hg.os.trans h.bel.os,hg.tape.trans h.bel.tape,hg.output.trans h.bel.output,Qc0 h.bel.size hg.size,fun k hk hn=>?_⟩
  refine(hkeep k (Qc2 hk h.bel.size) (fun e=>?_)).trans (h.bel.block k hk hn)
  rcases(hob k e).2 with h0|h0
  ·omega
  ·exact hn h0
 ·simp only[Den]
  exact⟨.inr rfl,hb1.symm,.inl ⟨A,_,cap,hform⟩⟩
theorem good_row (h:MOk w0 G0 g H) (hn:¬g.U nm) (hg:g.W.grownBy W' ob) (hob:∀b,ob=some b→¬g.G b∧w0.mine b)
 (hH:∀x o,H' x=some o→(x=nm∧o=.row e l)∨(x≠nm∧H x=some o∧∀b,ob=some b→q1k (g.β x)≠some b))
 (ho:q5a W' e l.st v l.len xs) (hmx:l.len≤maxLen) (hc:∀i j,i<l.len→j<l.st→Rep g.W g.G (l.cell i j) (xs.getD (i*l.st+j) undef))
 (hv:∀b,q1k v=some b→ob=some b∨b=g.W.heap.size):Good w0 G0 g nm H' (.row nm) v W':=k2q h hn hg hob hH ho hmx hc fun b hb=>(hv b hb).imp id fun e=>by omega
theorem v2u {W:World} {G:Nat→Prop} (hst:l.st=1) (hl:xs.length=l.len) (ho:Own W e v xs) (hc:∀i,i<l.len→Rep W G (l.cell i 0) (xs.getD i undef)):
 q5a W e l.st v l.len xs∧∀i j,i<l.len→j<l.st→Rep W G (l.cell i j) (xs.getD (i*l.st+j) undef):=by
 refine⟨by rw[hst];exact .of_one ho hl,fun i j hi hj=>?_⟩
 have hj0:j=0:=by omega
 subst hj0
 rw[hst,Qf6,Qd9]
 exact hc i hi
theorem z7a {W:World} {G:Nat→Prop} (hst:l.st=1) (ho:q5a W e l.st v l.len xs) (hc:∀i j,i<l.len→j<l.st→Rep W G (l.cell i j) (xs.getD (i*l.st+j) undef)):
 Own W e v xs∧xs.length=l.len∧∀i,i<l.len→Rep W G (l.cell i 0) (xs.getD i undef):=by
 rw[hst]at ho
 refine⟨ho.one.1,ho.one.2,fun i hi=>?_⟩
 have:=hc i 0 hi (by omega)
 rwa [hst,Qf6,Qd9]at this
theorem k8f {us:List Value} {t:TypeId} (h:MOk w0 G0 g H) (hmx:l.len≤maxLen) (hc:∀i j,i<l.len→j<l.st→i*l.st+j<us.length∧Rep g.W g.G (l.cell i j) (us.getD (i*l.st+j) undef)):
 Good w0 G0 g nm H (.im (.ls l)) (.slice (some ⟨g.W.heap.size,0,none⟩) l.len l.len) (g.W.alloc (.cells us.toArray t)):=by
 refine x9w h ⟨rfl,rfl,rfl,by simp,fun k hk=>Below.heap_alloc g.W _ k hk⟩ ?_
 simp only[Den]
 refine .ls l g.W.heap.size 0 l.len (fun i j=>us.getD (i*l.st+j) undef) (Qb8 _) hmx (.inr ⟨Qb8 _,by simp⟩) (fun i j hi hj=>?_) (fun i j hi hj=>?_)
 ·rw[Qg7,cell_of_row _ g.W.heap.size (i*l.st+j) us.toArray t (0,0) (heap_alloc_new _ _)]
  simp[List.getD,Qa0 (hc i j hi hj).1]
 ·exact(hc i j hi hj).2.mono (fun b hb=>Below.heap_alloc g.W _ b (h.gb b hb).1) (fun _ hb=>.inl hb)
theorem k1g {r:Nat} (h:MOk w0 G0 g H) (hr:H r=some (.row e l)):
 ∃g':Gh,g'.W=g.W∧g'.β=g.β∧g'.U=g.U∧g.le g'∧MOk w0 G0 g' (upd H r none)∧Rep g'.W g'.G (.ls l) (g.β r):=by
 obtain⟨hu,xs,ho,h2,h4⟩:=h.ok r _ hr
 let g':Gh:=⟨g.W,fun b=>g.G b∨q1k (g.β r)=some b,g.β,g.U⟩
 have hle:g.le g':=⟨fun _ _=>rfl,fun _ hb=>.inl hb,fun _ h=>⟨h,rfl⟩⟩
 have hupd:∀x o,upd H r none x=some o→x≠r∧H x=some o:=by
  intro x o hx
  unfold upd at hx
  by_cases e':x=r
  ·subst e';rw[q6x]at hx;cases hx
  ·rw[q4x e']at hx;exact⟨e',hx⟩
 refine⟨g',rfl,rfl,rfl,hle,⟨?_,?_,?_,?_,h.bel,h.anc_up hle⟩,?_⟩
 ·intro x o hx
  obtain⟨_,hx⟩:=hupd x o hx
  exact⟨(h.ok x o hx).1,(h.ok x o hx).2.up hle fun _ _=>rfl⟩
 ·intro x x' o o' b hx hx' hb hb'
  exact h.sep x x' o o' b (hupd x o hx).2 (hupd x' o' hx').2 hb hb'
 ·intro x o b hx hb
  obtain⟨hne,hx⟩:=hupd x o hx
  refine⟨fun hg=>?_,(h.own x o b hx hb).2⟩
  rcases hg with hg|hg
  ·exact(h.own x o b hx hb).1 hg
  ·exact hne (h.sep x r o _ b hx hr hb hg)
 ·rintro b (hb|hb)
  ·exact h.gb b hb
  ·exact⟨(h.ok r _ hr).2.lt hb,.inr (h.own r _ b hr hb).2⟩
 ·rcases ho.cells with⟨hv,hn⟩|⟨b,off,cap,hv,h5,h6⟩
  ·rw[hv];exact .nil l none 0 hn
  ·have hlen:=ho.len
   rw[hv]
   refine .ls l b off cap (fun i j=>xs.getD (i*l.st+j) undef) h5 h2 (.inr (by rw[hv];rfl)) (fun i j hi hj=>?_) (fun i j hi hj=>hle.rep (h4 i j hi hj))
   have hlt:i*l.st+j<xs.length:=by
    rw[hlen]
    calc i*l.st+j<i*l.st+l.st:=by omega
     _=(i+1)*l.st:=by rw[Qk5,Qq7]
     _≤l.len*l.st:=Qk1 _ hi
   have:=h6 _ hlt
   rw[←Qg5]at this
   rw[this]
   simp[List.getD,Qa0 hlt]
theorem y9s {r i b off n c:Nat} {l':LD} {u:Value} (h:MOk w0 G0 g H) (hr:H r=some (.row e l)) (hb:g.β r=.slice (some ⟨b,off,none⟩) n c) (hi:i<l.len) (hl':l'.len=l.len) (hst:l.st=1) (hst':l'.st=1)
 (hci:Rep g.W g.G (l'.cell i 0) u) (hco:∀k,k≠i→l'.cell k 0=l.cell k 0):Good w0 G0 g nm (q2e H [(r,some (.row e l'))]) .any undef (g.W.setCell ⟨b,off+i,none⟩ u):=by
 have hbk:q1k (g.β r)=some b:=by rw[hb];rfl
 have hnG:¬g.G b:=(h.own r _ b hr hbk).1
 let g':Gh:=⟨g.W.setCell ⟨b,off+i,none⟩ u,g.G,g.β,fun x=>g.U x∨x=nm⟩
 have hkeep:∀k,k≠b→g'.W.heap[k]? =g.W.heap[k]? :=fun k hk=>Below.heap_setCell g.W ⟨b,off+i,none⟩ u k hk
 have hle:g.le g':=⟨fun k hk=>hkeep k (fun e=>hnG (e▸hk)),fun _ hb=>hb,fun r hr=>⟨.inl hr,rfl⟩⟩
 have hupd:∀x o,q2e H [(r,some (.row e l'))] x=some o→(x=r∧o=.row e l')∨(x≠r∧H x=some o):=by
  intro x o hx
  simp only[q2e,Qe2,Qm6,upd]at hx
  by_cases e:x=r
  ·subst e;simp at hx;exact .inl ⟨rfl,hx.symm⟩
  ·rw[q4x e]at hx;exact .inr ⟨e,hx⟩
 have hsome:∀x o,q2e H [(r,some (.row e l'))] x=some o→∃o',H x=some o':=fun x o hx=>by
  rcases hupd x o hx with⟨rfl,_⟩|⟨_,h1⟩
  ·exact⟨_,hr⟩
  ·exact⟨_,h1⟩
 refine⟨g',rfl,hle,fun _=>Iff.rfl,⟨?_,?_,?_,?_,?_,h.anc_up hle⟩,by simp only[Den]⟩
 ·intro x o hx
  rcases hupd x o hx with⟨rfl,rfl⟩|⟨hx',ho⟩
  ·obtain⟨hu,xs,ho0,h2,h40⟩:=h.ok _ _ hr
   obtain⟨ho,h1,h4⟩:=z7a hst ho0 h40
   have hr1:=v2u (l:=l') (W:=g'.W) (G:=g'.G) (e:=e) (v:=g'.β x) (xs:=xs.set i u) hst' (by rw[Qb6,hl'];exact h1) ?_ ?_
   ·exact⟨.inl hu,xs.set i u,hr1.1,by rw[hl'];exact h2,hr1.2⟩
   ·show Own (g.W.setCell _ u) e (g.β x) _
    rw[hb]at ho⊢
    exact ho.set_ (by omega) u
   ·intro k hk
    rw[hl']at hk
    by_cases hki:k=i
    ·subst hki
     have:(xs.set k u).getD k undef=u:=by simp[List.getD,show k<xs.length by omega]
     rw[this]
     exact hle.rep hci
    ·have:(xs.set i u).getD k undef=xs.getD k undef:=by simp[List.getD,Ne.symm hki]
     rw[this,hco k hki]
     exact hle.rep (h4 k hk)
  ·obtain⟨hu,hok⟩:=h.ok x o ho
   exact⟨.inl hu,hok.up hle fun k hk=>hkeep k (fun e=>hx' (h.sep x r o _ b ho hr (e▸hk) hbk))⟩
 ·intro x x' o o' k hx hx' hk hk'
  obtain⟨p,hp⟩:=hsome x o hx
  obtain⟨p',hp'⟩:=hsome x' o' hx'
  exact h.sep x x' p p' k hp hp' hk hk'
 ·intro x o k hx hk
  obtain⟨p,hp⟩:=hsome x o hx
  exact h.own x p k hp hk
 ·intro k hk
  have:=h.gb k hk
  exact⟨by show k<(g.W.setCell _ _).heap.size;simpa[World.setCell]using this.1,this.2⟩
 ·refine⟨h.bel.os,h.bel.tape,h.bel.output,by simpa[g',World.setCell]using h.bel.size,fun k hk hn=>?_⟩
  refine(hkeep k (fun e=>?_)).trans (h.bel.block k hk hn)
  subst e
  rcases(h.own r _ k hr hbk).2 with h0|h0
  ·omega
  ·exact hn h0
end
end
end Go.Proofs.YteikjpbbhopkaaaGreatDoor.En
namespace Go.Proofs.YteikjpbbhopkaaaGreatDoor.En
section
open Go Go.RowKit
def descOf:TypeDesc→Bool×List (Nat×Nat)×Option Nat×Bool×Nat
 |.struct fs=>(true,fs.toList.map fun f=>(f.offset,f.type),none,false,0)
 |.array n e=>(true,[],some e,false,20+n)
 |.slice e=>(false,[],some e,false,0)
 |.bool=>(false,[],none,true,0)
 |.int k=>(false,[],none,false,kNo k)
 |.string=>(false,[],none,false,9)
 |.map _ _=>(false,[],none,false,10)
 |.interface _=>(false,[],none,false,11)
 |_=>(false,[],none,false,0)
def u8h (P:Program) (t:Nat) (td:TD):Bool:=bif Nat.beq td.ik 10 then(match P.underlying t with|some (.map k e)=>Nat.beq e td.ld&&((match P.underlying k with|some (.int .i64)=>true|_=>false)&&(match P.info? e with|some i=>(match i.zero with|some (.agg _)=>false|_=>true)|none=>true))|_=>false)else true
def z4y (P:Program) (t:Nat) (td:TD):Prop:=
 (P.info? t).map (fun i=>(i.size,i.zero.map (·.cells.toList),i.bytes))=some (td.size,some td.zero,td.bytes)∧
 (P.underlying t).map descOf=some (td.isAgg,td.fields,td.elem,td.isBool,td.ik)∧u8h P t td=true
def q8e (os:List q0d):Nat→Option q0d:=fun r=>os[r]?
def q3s (os:List (Option q0d)):Nat→Option q0d:=fun r=>match os[r]? with|some x=>x|none=>none
def q5p (g:Gh) (os:List q0d) (b:Nat):Prop:=∃r,r<os.length∧q1k (g.β r)=some b
def q0c (P:Program) (f:Nat) (σ:CtF):Prop:=
 (∀args W,(callFunc f args).run P W=.ok (.enter f args) W)∧
 ∀(g:Gh) args os vs p r outs,σ args os=some (p,r,outs)→p→MOk ⟨g.W,q5p g os,os.length,g.β,[]⟩ g.G g (q8e os)→(∀r,g.U r→r<os.length)→q0e g args vs→
  Calls P f vs.toArray g.W (fun e W'=>∃u g',e=.returned u∧g'.W=W'∧g.le g'∧MOk ⟨g.W,q5p g os,os.length,g.β,[]⟩ g.G g' (q3s outs)∧Den g' r u)
def q3v (P:Program) (f:Nat) (σ:CtF) (ε:Ending→Value→Prop):Prop:=
 (∀args W,(callFunc f args).run P W=.ok (.enter f args) W)∧
 ∀(g:Gh) args os vs p r outs,σ args os=some (p,r,outs)→p→MOk ⟨g.W,q5p g os,os.length,g.β,[]⟩ g.G g (q8e os)→(∀r,g.U r→r<os.length)→q0e g args vs→
  Calls P f vs.toArray g.W (fun e W'=>∃u g',ε e u∧g'.W=W'∧g.le g'∧MOk ⟨g.W,q5p g os,os.length,g.β,[]⟩ g.G g' (q3s outs)∧Den g' r u)
def j0u (P:Program) (f:Nat) (σ:k1o):Prop:=
 (∀args W,(callFunc f args).run P W=.ok (.enter f args) W)∧
 ∀W G args vs p r,(∀b,G b→b<W.heap.size)→σ args=some (p,r)→p→q0e ⟨W,G,fun _=>undef,fun _=>False⟩ args vs→
  Calls P f vs.toArray W (fun e W'=>∃u,e=.returned u∧Below W.heap.size W W'∧Den ⟨W',fun b=>G b∨(W.heap.size≤b∧b<W'.heap.size),fun _=>undef,fun _=>False⟩ r u)
def j4m (P:Program) (f:Nat) (σ:k1o):Prop:=
 (∀args W,(callFunc f args).run P W=.ok (.enter f args) W)∧
 ∀W G args vs p r,(∀b,G b→b<W.heap.size)→j2i ⟨W,G,fun _=>undef,fun _=>False⟩→σ args=some (p,r)→p→q0e ⟨W,G,fun _=>undef,fun _=>False⟩ args vs→
  Calls P f vs.toArray W (fun e W'=>∃u,e=.returned u∧Below W.heap.size W W'∧Den ⟨W',fun b=>G b∨(W.heap.size≤b∧b<W'.heap.size),fun _=>undef,fun _=>False⟩ r u)
theorem j0u.g {P:Program} {f:Nat} {σ:k1o} (h:j0u P f σ):j4m P f σ:=⟨h.1,fun W G args vs p r hG _=>h.2 W G args vs p r hG⟩
theorem j4m.up {P:Program} {f:Nat} {σ:k1o} (h:j4m P f σ):q0c P f σ.up:=by
 refine⟨h.1,fun g args os vs p r outs hσ hp hm hU hd=>?_⟩
 unfold k1o.up at hσ
 split at hσ
 ·split at hσ
  ·rename_i p' r' hs
   simp only[Option.some.injEq,Prod.mk.injEq]at hσ
   obtain⟨rfl,rfl,rfl⟩:=hσ
   have hU':∀r,¬g.U r:=fun r hr=>absurd (hU r hr) (by simp)
   have hd':q0e ⟨g.W,g.G,fun _=>undef,fun _=>False⟩ args vs:=by
    have:=q0e.map (f:=id) (g:=g) (g':=⟨g.W,g.G,fun _=>undef,fun _=>False⟩) rfl rfl args vs (fun r _ hu=>absurd hu (hU' r)) hd
    rwa [q5w]at this
   refine Calls.mono (h.2 g.W g.G args vs _ _ (fun b hb=>(hm.gb b hb).1) hm.anc.2 hs hp hd') fun e W' he=>?_
   obtain⟨u,rfl,hb,hdr⟩:=he
   have hle:g.le ⟨W',fun b=>g.G b∨(g.W.heap.size≤b∧b<W'.heap.size),fun _=>undef,fun _=>False⟩:=⟨fun b hg=>hb.block b (hm.gb b hg).1,fun _ hg=>.inl hg,fun r hr=>absurd hr (hU' r)⟩
   refine⟨u,⟨W',fun b=>g.G b∨(g.W.heap.size≤b∧b<W'.heap.size),fun _=>undef,fun _=>False⟩,rfl,rfl,hle,
    ⟨fun r o hr=>by simp[q3s]at hr,fun r r' o o' b hr=>by simp[q3s]at hr,fun r o b hr=>by simp[q3s]at hr,fun b hg=>?_,⟨hb.os,hb.tape,hb.output,hb.size,fun k hk _=>hb.block k hk⟩,fun r hr=>by simp at hr,hm.anc.2.up hle⟩,hdr⟩
   rcases hg with hg|hg
   ·exact⟨Qc2 (hm.gb b hg).1 hb.size,.inl hg⟩
   ·exact⟨hg.2,.inr (.inl hg.1)⟩
  ·cases hσ
 ·cases hσ
theorem j0u.up {P:Program} {f:Nat} {σ:k1o} (h:j0u P f σ):q0c P f σ.up:=h.g.up
def orF (σ τ:CtF):CtF:=fun a o=>match σ a o with|some x=>some x|none=>τ a o
theorem q0c.or {P:Program} {f:Nat} {σ τ:CtF} (h:q0c P f σ) (h':q0c P f τ):q0c P f (orF σ τ):=by
 refine⟨h.1,fun g args os vs p r outs hσ=>?_⟩
 unfold orF at hσ
 cases hs:σ args os with
 |some x=>rw[hs]at hσ;cases hσ;exact h.2 g args os vs p r outs hs
 |none=>rw[hs]at hσ;exact h'.2 g args os vs p r outs hσ
structure q1c (P:Program) (cx:Cx):Prop where
 ty:∀t td,look t cx.ty=some td→z4y P t td
 fn:∀f σ,look f cx.fn=some σ→q0c P f σ
section
variable {P:Program} {t:Nat} {td:TD}
theorem z4y.info (h:z4y P t td):∃i z,P.info? t=some i∧i.size=td.size∧i.zero=some z∧z.cells.toList=td.zero∧i.bytes=td.bytes:=by
 have h1:=h.1
 cases hi:P.info? t with
 |none=>rw[hi]at h1;cases h1
 |some i=>
  rw[hi]at h1
  simp only[Qg1,Option.some.injEq,Prod.mk.injEq]at h1
  obtain⟨a,b,c⟩:=h1
  cases hz:i.zero with
  |none=>rw[hz]at b;cases b
  |some z=>
   rw[hz]at b
   simp only[Qg1,Option.some.injEq]at b
   exact⟨i,z,rfl,a,hz,b,c⟩
theorem z4y.desc (h:z4y P t td):∃d,P.underlying t=some d∧descOf d=(td.isAgg,td.fields,td.elem,td.isBool,td.ik):=by
 have h1:=h.2.1
 cases hi:P.underlying t with
 |none=>rw[hi]at h1;cases h1
 |some d=>rw[hi]at h1;exact⟨d,rfl,by simpa using h1⟩
theorem z4y.isAgg (h:z4y P t td) (W:World):(isAgg t).run P W=.ok td.isAgg W:=by
 obtain⟨d,hu,hd⟩:=h.desc
 unfold Go.isAgg
 rw[Sem.run_bind,run_underlying hu]
 cases d<;>simp[descOf]at hd<;>simp[hd,Result.andThen]
theorem z4y.sizeOf (h:z4y P t td) (W:World):(sizeOf t).run P W=.ok td.size W:=by
 obtain⟨i,z,hi,hs,_⟩:=h.info
 unfold Go.sizeOf
 rw[Sem.run_bind]
 simp[typeInfo,hi,hs]
theorem z4y.zero (h:z4y P t td) (W:World):∃z,(zeroValue t).run P W=.ok z W∧z.cells.toList=td.zero:=by
 obtain⟨i,z,hi,hs,hz,hc,_⟩:=h.info
 refine⟨z,?_,hc⟩
 unfold zeroValue
 rw[Sem.run_bind]
 simp[typeInfo,hi,hz]
theorem z4y.array (h:z4y P t td) {e:Nat} (he:td.elem=some e) (ha:td.isAgg=true) (hk:20≤td.ik):P.underlying t=some (.array (td.ik-20) e):=by
 obtain⟨d,hu,hd⟩:=h.desc
 rw[hu]
 rw[he,ha]at hd
 cases d with
 |array n e'=>
  simp only[descOf,Prod.mk.injEq,Option.some.injEq]at hd
  obtain⟨_,_,h1,_,h2⟩:=hd
  rw[h1,←h2,Nat.add_sub_cancel_left]
 |_=>simp[descOf]at hd
theorem z4y.slice (h:z4y P t td) {e:Nat} (he:td.el=some e):P.underlying t=some (.slice e):=by
 obtain⟨d,hu,hd⟩:=h.desc
 rw[hu]
 have ha:td.isAgg=false:=by
  cases ha:td.isAgg with
  |false=>rfl
  |true=>unfold TD.el at he;rw[ha]at he;cases he
 replace he:td.elem=some e:=by unfold TD.el at he;rw[ha]at he;exact he
 cases d<;>simp[descOf]at hd<;>simp_all
theorem z4y.field (h:z4y P t td) {f off ft:Nat} (hf:td.fields[f]? =some (off,ft)):∃fs:Array Field,P.underlying t=some (.struct fs)∧∃x,fs[f]? =some x∧x.offset=off∧x.type=ft:=by
 obtain⟨d,hu,hd⟩:=h.desc
 cases d with
 |struct fs=>
  refine⟨fs,hu,?_⟩
  simp[descOf]at hd
  rw[←hd.2.1]at hf
  simp at hf
  obtain⟨x,h1,h2,h3⟩:=hf
  exact⟨x,by simpa using h1,h2,h3⟩
 |_=>
  have h2:td.fields=[]:=(congrArg (fun x=>x.2.1) hd).symm
  rw[h2]at hf
  simp at hf
theorem q8t (h:z4y P t td) (W:World) (b off:Nat) (us:List Value) (hc:∀j u,us[j]? =some u→W.cell? ⟨b,off+j,none⟩=some u) {g:Gh} {cs:List AV} (hd:q0e g cs us) {v:AV}
 (hr:q9a td cs=some v):∃u,(loadVar t ⟨b,off,none⟩).run P W=.ok u W∧Den g v u:=by
 unfold loadVar
 rw[Sem.run_bind,h.isAgg W]
 simp only[Result.andThen]
 unfold q9a at hr
 cases ha:td.isAgg with
 |true=>
  rw[ha]at hr
  simp only[cond_true]at hr
  cases hl:Nat.ble td.size cs.length with
  |false=>rw[hl]at hr;cases hr
  |true=>
   rw[hl]at hr
   simp only[cond_true,Option.some.injEq]at hr
   subst hr
   have hlen:td.size≤cs.length:=Qc3 hl
   have hus:=hd.length
   have hll:(us.take td.size).length=td.size:=by rw[Qd0];omega
   have hrun:=run_loadCells_list (P:=P) W ⟨b,off,none⟩ (us.take td.size) (fun j u hu=>by
    rw[q5c]
    rw[Qn2]at hu
    split at hu
    ·exact hc j u hu
    ·cases hu)
   rw[hll]at hrun
   refine⟨.agg (us.take td.size).toArray,?_,?_⟩
   ·simp only[if_true,Sem.run_bind,h.sizeOf W,Result.andThen,hrun,Sem.run_pure]
   ·simp only[Den];exact⟨_,rfl,hd.take _⟩
 |false=>
  rw[ha]at hr
  simp only[cond_false]at hr
  cases cs with
  |nil=>cases hr
  |cons x l=>
   simp only[List.head?_cons,Option.some.injEq]at hr
   subst hr
   simp only[q0e]at hd
   obtain⟨u,vs',e,hx,_⟩:=hd
   refine⟨u,?_,hx⟩
   have:=hc 0 u (by rw[e];rfl)
   rw[Qd9]at this
   simp[run_load,this]
end
theorem q0q {x v:AV} {ps:List Prop} {hs:List (Nat×Option q0d)} (h:yes x=some (ps,v,hs)):v=x∧ps=[]∧hs=[]:=by
 simp only[yes,Option.some.injEq,Prod.mk.injEq]at h
 exact⟨h.2.1.symm,h.1.symm,h.2.2.symm⟩
theorem q1s {p:Prop} {x v:AV} {ps:List Prop} {hs:List (Nat×Option q0d)} (h:may p x=some (ps,v,hs)):v=x∧ps=[p]∧hs=[]:=by
 simp only[may,Option.some.injEq,Prod.mk.injEq]at h
 exact⟨h.2.1.symm,h.1.symm,h.2.2.symm⟩
theorem x1w {g:Gh}:∀{xs:List IV} {b off:Nat},(∀j x,xs[j]? =some x→∃u,g.W.cell? ⟨b,off+j,none⟩=some u∧Rep g.W g.G x u)→
 ∃us:List Value,q0e g (imL xs) us∧∀j u,us[j]? =some u→g.W.cell? ⟨b,off+j,none⟩=some u
 |[],b,off,_=>⟨[],by simp[imL,q0e],fun j u h=>by simp at h⟩
 |x::xs,b,off,h=>by
  obtain⟨u,hu,hx⟩:=h 0 x rfl
  obtain⟨us,h1,h2⟩:=x1w (xs:=xs) (b:=b) (off:=off+1) (fun j y hy=>by
   have:=h (j+1) y (by simpa using hy)
   rw[show off+1+j=off+(j+1) by omega]
   exact this)
  refine⟨u::us,?_,?_⟩
  ·simp only[imL,Qc6,q0e]
   exact⟨u,us,rfl,by simp only[Den];exact hx,h1⟩
  ·intro j w hw
   rcases j with _|j
   ·simp at hw;subst hw;exact hu
   ·have:=h2 j w (by simpa using hw)
    rw[show off+1+j=off+(j+1) by omega]at this
    exact this
theorem z3t {g:Gh} {x:AV} {u:Value} (h1:x.one=true) (hd:Den g x u):u.oneCell'=true:=by
 cases x with
 |im x=>
  cases x with
  |val w=>rw[q0b hd];exact h1
  |ls l=>
   simp only[Den]at hd
   obtain⟨A,c,rfl,_⟩:=hd.slice
   rfl
 |row r=>simp only[Den]at hd;obtain⟨_,_,⟨A,n,c,rfl⟩|⟨b,rfl⟩⟩:=hd<;>rfl
 |clo f xs=>simp only[Den]at hd;obtain⟨vs,rfl,_⟩:=hd;unfold u6m;cases Nat.blt f bndK<;>rfl
 |loc r off=>simp only[Den]at hd;obtain⟨_,b,_,rfl⟩:=hd;rfl
 |pto xs=>simp only[Den]at hd;obtain⟨b,off,rfl,_⟩:=hd;rfl
 |err b=>simp only[Den]at hd;split at hd;(obtain⟨_,_,rfl⟩:=hd;rfl);(subst hd;rfl)
 |_=>simp[AV.one]at h1
theorem z7l {g:Gh}:∀{xs:List AV} {us:List Value},xs.all AV.one=true→q0e g xs us→∀u∈us,u.oneCell'=true
 |[],us,_,h,u,hu=>by simp only[q0e]at h;subst h;simp at hu
 |x::l,us,ha,h,u,hu=>by
  simp only[q0e]at h
  obtain⟨v,vs',e,h1,h2⟩:=h
  simp only[Qj8,Qa2]at ha
  subst e
  rcases List.mem_cons.1 hu with rfl|hu
  ·exact z3t ha.1 h1
  ·exact z7l ha.2 h2 u hu
theorem z8u {g:Gh} {x:AV} {u:Value} (hx:x.cells.all AV.one=true) (hd:Den g x u):q0e g x.cells u.cells.toList:=by
 cases x with
 |agg xs=>simp only[Den]at hd;obtain⟨vs,rfl,hl⟩:=hd;simpa[AV.cells,Value.cells]using hl
 |_=>
  simp only[AV.cells,Qj8,List.all_nil,Bool.and_true]at hx
  have h1:=z3t hx hd
  have:u.cells= #[u]:=by cases u<;>first|rfl|(simp[Value.oneCell']at h1)
  rw[this]
  simp only[AV.cells,q0e]
  exact⟨u,[],rfl,hd,rfl⟩
theorem q7s {α:Type}:∀(l ys:List α) (k:Nat),k+ys.length≤l.length→setAt l k ys=l.take k++ys++l.drop (k+ys.length)
 |l,[],k,_=>by cases l<;>simp[setAt]
 |[],y::ys,k,h=>by simp at h
 |x::l,y::ys,0,h=>by simp[setAt,q7s l ys 0 (by simp at h;omega)]
 |x::l,y::ys,k+1,h=>by
  simp only[setAt,Qj2,Qc9,Qa8]
  rw[q7s l (y::ys) k (by simp at h⊢;omega)]
  simp[show k+1+(ys.length+1)=(k+(ys.length+1))+1 by omega]
section
variable {P:Program} {cx:Cx} {w0:Base} {G0:Nat→Prop} {g:Gh} {H hp:Nat→Option q0d} {nm:Nat}
 {ins:List AV} {vs:List Value} {ρ:Operand→Value} {o:Oper} {ps:List Prop} {v:AV} {hs:List (Nat×Option q0d)}
theorem y8j (hm:MOk w0 G0 g H) (hin:q0e g ins vs) (hc:k6w ins=some (ps,v,hs)) {x:Operand} (hop:o.op=.move x∨o.op=.assign x) (hv:[ρ x]=vs):Eff P ρ o g.W (Good w0 G0 g nm (q2e H hs) v):=by
 match ins,hin,hc with
 |[y],hin,hc=>
  obtain⟨rfl,rfl,rfl⟩:=q0q hc
  obtain⟨u,e,hd⟩:=q4w hin
  rw[←hv]at e
  cases e
  refine .of_run (u:=ρ x) (W':=g.W) ?_ (q0m hm hd)
  rcases hop with hop|hop<;>simp[execOp,hop]
theorem u5m (hm:MOk w0 G0 g H) (hin:q0e g ins vs) (hc:v1g ins=some (ps,v,hs)) {x:Operand} (hop:o.op=.nilCheck x) (hv:[ρ x]=vs):Eff P ρ o g.W (Good w0 G0 g nm (q2e H hs) v):=by
 unfold v1g at hc
 split at hc
 ·obtain⟨rfl,rfl,rfl⟩:=q0q hc
  obtain⟨u,e,hd⟩:=q4w hin
  rw[←hv]at e
  cases e
  have hd':=hd
  simp only[Den]at hd
  obtain⟨_,b,_,e⟩:=hd
  refine .of_run (u:=ρ x) (W':=g.W) ?_ (q0m hm hd')
  simp[execOp,hop,e]
 ·obtain⟨rfl,rfl,rfl⟩:=q0q hc
  obtain⟨u,e,hd⟩:=q4w hin
  rw[←hv]at e
  cases e
  have hd':=hd
  simp only[Den]at hd
  obtain⟨b,off,e,_⟩:=hd
  refine .of_run (u:=ρ x) (W':=g.W) ?_ (q0m hm hd')
  simp[execOp,hop,e]
 ·cases hc
theorem k7j (hm:MOk w0 G0 g H) (hin:q0e g ins vs) (hc:u3b ins=some (ps,v,hs)) (hps:q3n ps) {c x y:Operand} (hop:o.op=.pick c x y) (hv:[ρ c,ρ x,ρ y]=vs):Eff P ρ o g.W (Good w0 G0 g nm (q2e H hs) v):=by
 have key:∀b p q:Bool,ρ c=.bool b→(b=true→ρ x=.bool p)→(b=false→ρ y=.bool q)→Eff P ρ o g.W (Good w0 G0 g nm (q2e H []) (.bool (bif b then p else q))):=by
  intro b p q h1 h2 h3
  refine .of_run (u:=.bool (bif b then p else q)) (W':=g.W) ?_ (q0m hm (q0g _))
  cases b
  ·simp[execOp,hop,h1,h3,asBool]
  ·simp[execOp,hop,h1,h2,asBool]
 unfold u3b at hc
 split at hc
 ·obtain⟨rfl,rfl,rfl⟩:=q0q hc
  obtain⟨a,b,c',e,h1,h2,h3⟩:=y5w hin
  rw[←hv]at e
  cases e
  exact key _ _ _ (q0b h1) (fun _=>q0b h2) (fun _=>q0b h3)
 ·obtain⟨rfl,rfl,rfl⟩:=q1s hc
  obtain⟨a,b,c',e,h1,h2,h3⟩:=y5w hin
  rw[←hv]at e
  cases e
  simp only[Den]at h2
  exact key _ _ _ (q0b h1) (fun hb=>q0b (g:=g) (by simp only[Den];exact h2.1 (hps hb))) (fun _=>q0b h3)
 ·obtain⟨rfl,rfl,rfl⟩:=q1s hc
  obtain⟨a,b,c',e,h1,h2,h3⟩:=y5w hin
  rw[←hv]at e
  cases e
  simp only[Den]at h3
  exact key _ _ _ (q0b h1) (fun _=>q0b h2) (fun hb=>q0b (g:=g) (by simp only[Den];exact h3.1 (hps hb)))
 ·cases hc
theorem k2x (hcx:q1c P cx) (hm:MOk w0 G0 g H) (hn:¬g.U nm) {t:Nat} (hc:x8b cx nm t ins=some (ps,v,hs)) (hop:o.op=.alloc t):Eff P ρ o g.W (Good w0 G0 g nm (q2e H hs) v):=by
 unfold x8b at hc
 split at hc
 ·split at hc
  ·rename_i td ht
   simp only[Option.some.injEq,Prod.mk.injEq]at hc
   obtain⟨rfl,rfl,rfl⟩:=hc
   obtain⟨z,hz,hzc⟩:=(hcx.ty t td ht).zero g.W
   have hg:=y7r (w0:=w0) (G0:=G0) (t:=t) hm hn (z7k (g:=g) td.zero)
   refine .of_run ?_ hg
   rw[←hzc]
   simp[execOp,hop,Instr.alloc,hz,newVar,newRow,Result.andThen]
  ·cases hc
 ·cases hc
theorem u4g (hm:MOk w0 G0 g H) (hn:¬g.U nm) (hin:q0e g ins vs) (hc:v0k nm ins=some (ps,v,hs)) {t:Nat} {x:Operand} (hop:o.op=.box t x) (hv:[ρ x]=vs):Eff P ρ o g.W (Good w0 G0 g nm (q2e H hs) v):=by
 have key:∀xs:List AV,q0e g xs (ρ x).cells.toList→Eff P ρ o g.W (Good w0 G0 g nm (q2e H [(nm,some (.box xs))]) (.loc nm 0)):=by
  intro xs hd
  refine .of_run ?_ (y7r (w0:=w0) (G0:=G0) (t:=t) hm hn hd)
  simp[execOp,hop,Instr.box,newVar,newRow,Result.andThen]
 unfold v0k at hc
 split at hc
 ·simp only[Option.some.injEq,Prod.mk.injEq]at hc
  obtain⟨rfl,rfl,rfl⟩:=hc
  obtain⟨u,e,hd⟩:=q4w hin
  rw[←hv]at e
  cases e
  simp only[Den]at hd
  obtain⟨vs',e,hl⟩:=hd
  exact key _ (by rw[e];simpa[Value.cells]using hl)
 ·rename_i y _
  cases h1:y.one with
  |false=>rw[h1]at hc;cases hc
  |true=>
   rw[h1]at hc
   simp only[cond_true,Option.some.injEq,Prod.mk.injEq]at hc
   obtain⟨rfl,rfl,rfl⟩:=hc
   obtain⟨u,e,hd⟩:=q4w hin
   rw[←hv]at e
   cases e
   have h2:=z3t h1 hd
   have:(ρ x).cells= #[ρ x]:=by
    generalize ρ x=u at h2
    cases u<;>first|rfl|(simp[Value.oneCell']at h2)
   exact key _ (by rw[this];simp only[q0e];exact⟨_,[],rfl,hd,rfl⟩)
 ·cases hc
theorem q8u:∀{cs:List AV} {bs:List Bool},q7c cs=some bs→cs=y5m bs bs.length∧cs=bs.map fun b=>.bool b
 |[],bs,h=>by cases h;exact⟨rfl,rfl⟩
 |c::cs,bs,h=>by
  have key:c::cs=bs.map fun b=>AV.bool b:=by
   cases c with
   |im x=>
    cases x with
    |val v=>
     cases v with
     |bool b=>
      simp only[q7c]at h
      cases hm:q7c cs with
      |none=>rw[hm]at h;cases h
      |some m=>
       rw[hm]at h
       cases h
       rw[(q8u hm).2]
       rfl
     |_=>simp[q7c]at h
    |_=>simp[q7c]at h
   |_=>simp[q7c]at h
  refine⟨key.trans ?_,key⟩
  unfold y5m
  refine Qh6 (by simp) fun i h1 h2=>?_
  simp at h1
  simp[List.getD,Qa0 h1]
theorem x4m {bs:List Bool} {i n:Nat} (hi:i<n):((y5m bs n).drop i).head? =some (.bool (bs.getD i false)):=by
 unfold y5m
 rw[List.head?_drop]
 simp[List.getElem?_range hi]
theorem k2b {cs:List AV} {bs:List Bool} (h:cs=bs.map fun b=>.bool b) {i:Nat} (hi:i<bs.length) {x:Bool}:setAt cs i [AV.bool x]=y5m (bs.set i x) bs.length:=by
 subst h
 rw[q7s _ _ _ (by simp;omega)]
 unfold y5m
 refine Qh6 (by simp;omega) fun k h1 h2=>?_
 simp at h2
 simp only[Qg3,Ql3]
 rw[Qa1,List.getElem?_set]
 by_cases hk:i=k
 ·subst hk
  rw[if_pos rfl,if_pos hi]
  rw[Qi2 (by simp;omega),Qh9 (by simp;omega)]
  simp
 ·rw[if_neg hk,Qa0 h2]
  by_cases hk2:k<i
  ·rw[Qi2 (by simp;omega),Qi2 (by simp;omega)]
   simp
  ·rw[Qh9 (by simp;omega)]
   simp
   congr 1
   omega
theorem k7p (hcx:q1c P cx) (hhp:∀r o,hp r=some o→H r=some o) (hm:MOk w0 G0 g H) (hin:q0e g ins vs) {t:Nat} (hc:k4w cx t hp ins=some (ps,v,hs)) (hps:q3n ps) {x:Operand} (hop:o.op=.load t x) (hv:[ρ x]=vs):
 Eff P ρ o g.W (Good w0 G0 g nm (q2e H hs) v):=by
 have key:∀b off (us:List Value) (cs:List AV) td y,look t cx.ty=some td→ρ x=.pointer (some ⟨b,off,none⟩)→(∀j u,us[j]? =some u→g.W.cell? ⟨b,off+j,none⟩=some u)→q0e g cs us→q9a td cs=some y→
  Eff P ρ o g.W (Good w0 G0 g nm (q2e H []) y):=by
  intro b off us cs td y ht hx hcell hd hr
  obtain⟨u,hu,hdu⟩:=q8t (hcx.ty t td ht) g.W b off us hcell hd hr
  refine .of_run (u:=u) (W':=g.W) ?_ (q0m hm hdu)
  simp[execOp,hop,Instr.loadAt,hx,Instr.sureAddr,hu,Result.andThen]
 unfold k4w at hc
 split at hc
 ·rename_i xs
  split at hc
  ·rename_i td ht
   split at hc
   ·rename_i y hy
    obtain⟨rfl,rfl,rfl⟩:=q0q hc
    obtain⟨u,e,hd⟩:=q4w hin
    rw[←hv]at e
    cases e
    simp only[Den]at hd
    obtain⟨b,off,hx,_,hcell⟩:=hd
    obtain⟨us,h1,h2⟩:=x1w hcell
    exact key b off us _ td _ ht hx h2 h1 hy
   ·cases hc
  ·cases hc
 ·rename_i r off
  split at hc
  ·rename_i td cs ht hr
   split at hc
   ·rename_i y hy
    obtain⟨rfl,rfl,rfl⟩:=q0q hc
    obtain⟨u,e,hd⟩:=q4w hin
    rw[←hv]at e
    cases e
    simp only[Den]at hd
    obtain⟨_,b,hb,hx⟩:=hd
    obtain⟨_,b',t',arr,hb',hw,hl⟩:=hm.ok r _ (hhp r _ hr)
    rw[hb]at hb'
    cases hb'
    refine key b off (arr.toList.drop off) _ td _ ht hx (fun j u hu=>?_) (hl.drop off) hy
    rw[cell_of_row g.W b (off+j) arr t' (0,0) hw]
    rw[Qh4]at hu
    simpa using hu
   ·cases hc
  ·cases hc
 ·rename_i r i
  split at hc
  ·rename_i td e l ht hr
   cases hs1:Nat.beq l.st 1 with
   |false=>rw[hs1]at hc;simp at hc
   |true=>
    have hst1:=Qb0 hs1
    cases ha:td.isAgg with
    |true=>rw[ha]at hc;simp at hc
    |false=>
    rw[ha,hs1]at hc
    obtain⟨rfl,rfl,rfl⟩:=q1s hc
    have hi:i<l.len:=hps
    obtain⟨u,e',hd⟩:=q4w hin
    rw[←hv]at e'
    cases e'
    simp only[Den]at hd
    obtain⟨_,b,off,n,c,hb,hin',hx⟩:=hd
    obtain⟨_,xs,ho0,h2,h40⟩:=hm.ok r _ (hhp r _ hr)
    obtain⟨ho,h1,h4⟩:=z7a hst1 ho0 h40
    rw[hb]at ho
    have hat:=ho.at_ (i:=i) (by omega)
    have hdu:Den g (.im (l.cell i 0)) xs[i]:=by
     simp only[Den]
     have:=h4 i hi
     have hg:xs.getD i undef=xs[i]:=by simp[List.getD,Qa0 (show i<xs.length by omega)]
     rwa [hg]at this
    exact key b (off+i) [xs[i]] [.im (l.cell i 0)] td _ ht hx (fun j u hu=>by
     rcases j with _|j
     ·simp at hu;subst hu;simpa using hat.1
     ·simp at hu) (by simp only[q0e];exact⟨_,[],rfl,hdu,rfl⟩) (by unfold q9a;rw[ha];rfl)
  ·cases hc
 ·rename_i r i
  split at hc
  ·rename_i td cs ht hr
   cases ha:td.isAgg with
   |true=>rw[ha]at hc;simp at hc
   |false=>
    rw[ha]at hc
    simp only[cond_false]at hc
    split at hc
    ·rename_i bs hbs
     obtain⟨rfl,rfl,rfl⟩:=q1s hc
     have hi:i<bs.length:=hps
     obtain⟨u,e',hd⟩:=q4w hin
     rw[←hv]at e'
     cases e'
     simp only[Den]at hd
     obtain⟨_,b,hb,hx⟩:=hd
     obtain⟨_,b',t',arr,hb',hw,hl⟩:=hm.ok r _ (hhp r _ hr)
     rw[hb]at hb'
     cases hb'
     obtain⟨e1,e2⟩:=q8u hbs
     rw[e1]at hl
     refine key b i (arr.toList.drop i) _ td _ ht hx (fun j u hu=>?_) (hl.drop i) ?_
     ·rw[cell_of_row g.W b (i+j) arr t' (0,0) hw]
      rw[Qh4]at hu
      simpa using hu
     ·unfold q9a
      rw[ha,cond_false,x4m hi]
    ·cases hc
  ·cases hc
 ·cases hc
theorem k0v (hcx:q1c P cx) (hhp:∀r o,hp r=some o→H r=some o) (hm:MOk w0 G0 g H) (hin:q0e g ins vs) {t:Nat} (hc:x8q cx t hp ins=some (ps,v,hs)) (hps:q3n ps) {x y:Operand} (hop:o.op=.store t x y) (hv:[ρ x,ρ y]=vs):
 Eff P ρ o g.W (Good w0 G0 g nm (q2e H hs) v):=by
 unfold x8q at hc
 split at hc
 ·rename_i r off z
  split at hc
  ·rename_i td cs ht hr
   cases hb:(z.cells.all AV.one&&(Nat.beq z.cells.length td.size&&Nat.ble (off+td.size) cs.length))with
   |false=>rw[hb]at hc;cases hc
   |true=>
    rw[hb]at hc
    simp only[cond_true,Option.some.injEq,Prod.mk.injEq]at hc
    obtain⟨rfl,rfl,rfl⟩:=hc
    simp only[Qa2]at hb
    obtain⟨h1,h2,h3⟩:=hb
    have h2:=Qb0 h2
    have h3:=Qc3 h3
    obtain⟨u,u',e,hd,hd'⟩:=q4u hin
    rw[←hv]at e
    cases e
    simp only[Den]at hd
    obtain⟨_,b,hb,hx⟩:=hd
    have hH:=hhp r _ hr
    obtain⟨_,b',t',arr,hb',hw,hl⟩:=hm.ok r _ hH
    rw[hb]at hb'
    cases hb'
    have hcl:=z8u h1 hd'
    have hlen:=hcl.length
    have hlen2:=hl.length
    have hg:=j2f (nm:=nm) hm hH hb hw (hl.setAt off hcl (by omega))
    refine .of_skip ?_ hg
    rw[q7s _ _ _ (by omega)]
    have hrun:=run_storeCells_at P b off t' (ρ y).cells.toList 0 arr g.W hw (by rw[Qf0]at hlen2;omega) (z7l h1 hcl)
    rw[Qd9]at hrun
    have hsz:(ρ y).cells.size=td.size:=by rw[←Qf0];omega
    simp[execOp,hop,Instr.storeAt,hx,Instr.sureAddr,storeVar,(hcx.ty t td ht).sizeOf,Result.andThen,hsz]
    rw[hrun]
    simp[hsz]
  ·cases hc
 ·rename_i r i z
  split at hc
  ·rename_i td e l ht hr
   split at hc
   ·rename_i l' hput
    cases hb1:Nat.beq td.size 1 with
    |false=>rw[hb1]at hc;cases hc
    |true=>
     rw[hb1]at hc
     simp only[cond_true,Option.some.injEq,Prod.mk.injEq]at hc
     obtain⟨rfl,rfl,rfl⟩:=hc
     have hi:i<l.len:=hps
     obtain⟨p1,p2,p3,p4,p5⟩:=x0b hput hi
     obtain⟨u,u',e',hd,hd'⟩:=q4u hin
     rw[←hv]at e'
     cases e'
     simp only[Den]at hd hd'
     obtain⟨_,b,off,n,c,hb,hin',hx⟩:=hd
     have hH:=hhp r _ hr
     obtain⟨_,xs,ho0,h2,h40⟩:=hm.ok r _ hH
     obtain⟨ho,h1,h4⟩:=z7a p3 ho0 h40
     rw[hb]at ho
     have hat:=ho.at_ (i:=i) (by omega)
     have hone:(ρ y).oneCell'=true:=j7d (l:=l') (i:=i) (j:=0) (by rw[p4 0];exact hd')
     have hg:=y9s (nm:=nm) (l':=l') (u:=ρ y) hm hH hb hi p1 p3 p2 (by rw[p4 0];exact hd') (fun k hk=>p5 k 0 hk)
     refine .of_skip ?_ hg
     have hcl:(ρ y).cells= #[ρ y]:=by
      generalize ρ y=u at hone
      cases u<;>first|rfl|(simp[Value.oneCell']at hone)
     have hst:=run_store P g.W ⟨b,off+i,none⟩ (ρ y) .plain hone
     rw[hat.1,hat.2]at hst
     have hszz:td.size=1:=Qb0 hb1
     simp[execOp,hop,Instr.storeAt,hx,Instr.sureAddr,storeVar,(hcx.ty t td ht).sizeOf,Result.andThen,hcl,hszz,storeCells,Addr.add,hst]
   ·cases hc
  ·cases hc
 ·rename_i r i q
  split at hc
  ·rename_i td e l e2 dq ht hr hq
   split at hc
   ·rename_i l' hput
    cases hb1:(Nat.beq td.size 1&& !Nat.beq q r)with
    |false=>rw[hb1]at hc;cases hc
    |true=>
     rw[hb1]at hc
     simp only[cond_true,Option.some.injEq,Prod.mk.injEq]at hc
     obtain⟨rfl,rfl,rfl⟩:=hc
     simp only[Qa2,Qd1]at hb1
     have hqr:q≠r:=fun e=>by rw[e,q6x]at hb1;cases hb1.2
     have hi:i<l.len:=hps
     obtain⟨p1,p2,p3,p4,p5⟩:=x0b hput hi
     obtain⟨u,u',e',hd,hd'⟩:=q4u hin
     rw[←hv]at e'
     cases e'
     simp only[Den]at hd hd'
     obtain⟨_,b,off,n,c,hb,hin',hx⟩:=hd
     obtain⟨_,hyq,_⟩:=hd'
     obtain⟨g1,k1,k2,k3,k4,k5,k6⟩:=k1g hm (hhp q _ hq)
     have hH:upd H q none r=some (.row e l):=by unfold upd;rw[q4x (Ne.symm hqr)];exact hhp r _ hr
     obtain⟨_,xs,ho0,h2,h40⟩:=k5.ok r _ hH
     obtain⟨ho,h1,h4⟩:=z7a p3 ho0 h40
     rw[k2]at ho
     rw[hb]at ho
     have hat:=ho.at_ (i:=i) (by omega)
     rw[←hyq]at k6
     have hone:(ρ y).oneCell'=true:=j7d (l:=l') (i:=i) (j:=0) (by rw[p4 0];exact k6)
     have hg:=y9s (nm:=nm) (l':=l') (u:=ρ y) k5 hH (by rw[k2];exact hb) hi p1 p3 p2 (by rw[p4 0];exact k6) (fun k hk=>p5 k 0 hk)
     have hg2:Good w0 G0 g nm (q2e H [(q,none),(r,some (.row e l'))]) .any undef (g.W.setCell ⟨b,off+i,none⟩ (ρ y)):=by
      obtain⟨g',a1,a2,a3,a4,a5⟩:=hg
      exact⟨g',by rw[a1,k1],k4.trans a2,fun r=>by rw[a3,k3],a4,a5⟩
     refine .of_skip ?_ hg2
     have hcl:(ρ y).cells= #[ρ y]:=by
      generalize ρ y=u at hone
      cases u<;>first|rfl|(simp[Value.oneCell']at hone)
     have hst:=run_store P g.W ⟨b,off+i,none⟩ (ρ y) .plain hone
     rw[k1]at hat
     rw[hat.1,hat.2]at hst
     have hszz:td.size=1:=Qb0 hb1.1
     simp[execOp,hop,Instr.storeAt,hx,Instr.sureAddr,storeVar,(hcx.ty t td ht).sizeOf,Result.andThen,hcl,hszz,storeCells,Addr.add,hst]
   ·cases hc
  ·cases hc
 ·rename_i r i z
  split at hc
  ·rename_i td cs ht hr
   split at hc
   ·rename_i bs hbs
    cases hb1:Nat.beq td.size 1 with
    |false=>rw[hb1]at hc;cases hc
    |true=>
     rw[hb1]at hc
     simp only[cond_true,Option.some.injEq,Prod.mk.injEq]at hc
     obtain⟨rfl,rfl,rfl⟩:=hc
     have hi:i<bs.length:=hps
     have hszz:td.size=1:=Qb0 hb1
     obtain⟨u,u',e',hd,hd'⟩:=q4u hin
     rw[←hv]at e'
     cases e'
     have hy:=q0b hd'
     simp only[Den]at hd
     obtain⟨_,b,hb,hx⟩:=hd
     have hH:=hhp r _ hr
     obtain⟨_,b',t',arr,hb',hw,hl⟩:=hm.ok r _ hH
     rw[hb]at hb'
     cases hb'
     obtain⟨_,e2⟩:=q8u hbs
     have hlc:cs.length=bs.length:=by rw[e2];simp
     have hlen2:=hl.length
     have hlen3:arr.size=bs.length:=by
      have h9:arr.size=cs.length:=by simpa using hlen2
      omega
     have hcl:q0e g [AV.bool z] [.bool z]:=by simp only[q0e];exact⟨_,[],rfl,q0g _,rfl⟩
     have hg:=j2f (nm:=nm) hm hH hb hw (hl.setAt i hcl (by simp;omega))
     rw[k2b e2 hi]at hg
     refine .of_skip ?_ hg
     rw[q7s _ _ _ (by simp;omega)]
     have hrun:=run_storeCells_at P b i t' [.bool z] 0 arr g.W hw (by simp;omega) (by simp[Value.oneCell'])
     rw[Qd9]at hrun
     simp[execOp,hop,Instr.storeAt,hx,Instr.sureAddr,storeVar,(hcx.ty t td ht).sizeOf,Result.andThen,hszz,hy,Value.cells]
     rw[hrun]
     simp
   ·cases hc
  ·cases hc
 ·cases hc
end
end
end Go.Proofs.YteikjpbbhopkaaaGreatDoor.En
namespace Go.Proofs.YteikjpbbhopkaaaGreatDoor.En
section
open Go Go.RowKit
section
variable {P:Program} {cx:Cx} {w0:Base} {G0:Nat→Prop} {g:Gh} {H hp:Nat→Option q0d} {nm:Nat}
 {ins:List AV} {vs:List Value} {ρ:Operand→Value} {o:Oper} {ps:List Prop} {v:AV} {hs:List (Nat×Option q0d)}
theorem run_equalIn_bool (d:Nat) {t:Nat} (hu:P.underlying t=some .bool) (a b:Bool) (W:World):(Op.equalIn (d+1) t (.bool a) (.bool b)).run P W=.ok (a==b) W:=by
 simp[Op.equalIn,run_underlying hu]
theorem u2o {k k':IntKind} (h:kNo k=kNo k'):k=k':=by cases k<;>cases k'<;>first|rfl|(simp[kNo]at h)
theorem z7p {k:IntKind} {n:Int} (h:inK k n):k.wrap n=n:=by
 cases k with
 |i64=>exact IntWalk.i64_in n h
 |u8=>exact IntWalk.u8_in n h
 |u64=>exact IntWalk.u64_in n h
 |i32=>exact IntWalk.i32_in n h
 |u32=>exact IntWalk.u32_in n h
 |_=>exact False.elim h
theorem k0c {a b:Int} {k':IntKind} {t:Nat} {W:World} (h:0≤b∧b≤64):(binOp .shr t (.int .i64 a) (.int k' b)).run P W=.ok (.int .i64 (a/2^b.toNat)) W:=by
 have h0:¬b<0:=by omega
 have h1:min b.toNat 64=b.toNat:=by omega
 have h2:a.fdiv (2^b.toNat)=a/2^b.toNat:=Int.fdiv_eq_ediv_of_nonneg a (Int.le_of_lt (Int.pow_pos (by decide)))
 simp[binOp,Op.shift,h0,IntKind.bits,h1,h2]
theorem k3d {a b:Int} {k':IntKind} {t:Nat} {W:World} (h:0≤b∧b≤64∧Fit (a*2^b.toNat)):(binOp .shl t (.int .i64 a) (.int k' b)).run P W=.ok (.int .i64 (a*2^b.toNat)) W:=by
 have h0:¬b<0:=by omega
 have h1:min b.toNat 64=b.toNat:=by omega
 simp[binOp,Op.shift,h0,IntKind.bits,h1,IntWalk.i64_in _ h.2.2]
theorem u2a {a b:Int} {t:Nat} {W:World}:(binOp .and t (.int .i64 a) (.int .i64 b)).run P W=.ok (.int .i64 (x6y a b)) W:=by
 unfold binOp
 simp only[ne_eq,not_true_eq_false,if_false]
 rfl
theorem u2l (hcx:q1c P cx) (hm:MOk w0 G0 g H) (hin:q0e g ins vs) {t t':Nat} {op:BinOp} (hc:v1i cx op t ins=some (ps,v,hs)) (hps:q3n ps) {x y:Operand} (hop:o.op=.binOp op t x y t') (hv:[ρ x,ρ y]=vs):
 Eff P ρ o g.W (Good w0 G0 g nm (q2e H hs) v):=by
 unfold v1i at hc
 split at hc
 ·rename_i a b
  obtain⟨u,u',e,hd,hd'⟩:=q4u hin
  rw[←hv]at e
  cases e
  have hx:=q0b hd
  have hy:=q0b hd'
  have key:∀w:Value,(binOp op t (.int .i64 a) (.int .i64 b)).run P g.W=.ok w g.W→Eff P ρ o g.W (Good w0 G0 g nm (q2e H []) (.im (.val w))):=by
   intro w hw
   refine .of_run (u:=w) (W':=g.W) ?_ (q0m hm (q0g _))
   simp[execOp,hop,hx,hy,hw,Result.andThen,eqGuard]
  have hw:u9w op a b=some (ps,v,hs)∨(op=.add∧yes (.int (Go.RowKit.wrap64 (a+b)))=some (ps,v,hs)):=by
   unfold v2r at hc
   split at hc
   ·cases hb:k9p cx t with
    |false=>rw[hb]at hc;exact .inl hc
    |true=>rw[hb]at hc;exact .inr ⟨rfl,hc⟩
   ·exact .inl hc
  clear hc
  rcases hw with hc|⟨rfl,hc⟩
  rotate_left
  ·obtain⟨rfl,rfl,rfl⟩:=q0q hc
   exact key _ (by simp[binOp,Op.intArith];exact IntWalk.i64_left _)
  unfold u9w at hc
  split at hc
  ·obtain⟨rfl,rfl,rfl⟩:=q1s hc
   exact key _ (by simp[binOp,Op.intArith,IntWalk.i64_in _ hps])
  ·obtain⟨rfl,rfl,rfl⟩:=q1s hc
   exact key _ (by simp[binOp,Op.intArith,IntWalk.i64_in _ hps])
  ·obtain⟨rfl,rfl,rfl⟩:=q1s hc
   exact key _ (by simp[binOp,Op.intArith,IntWalk.i64_in _ hps])
  ·obtain⟨rfl,rfl,rfl⟩:=q1s hc
   exact key _ (by simp[binOp,Op.intDiv,hps.1,IntWalk.i64_in _ hps.2])
  ·obtain⟨rfl,rfl,rfl⟩:=q1s hc
   have h0:b≠0:=hps
   exact key _ (by simp[binOp,Op.intDiv,h0])
  ·obtain⟨rfl,rfl,rfl⟩:=q0q hc
   exact key _ (by simp[binOp,Op.intCmp])
  ·obtain⟨rfl,rfl,rfl⟩:=q0q hc
   exact key _ (by simp[binOp,Op.intCmp])
  ·obtain⟨rfl,rfl,rfl⟩:=q0q hc
   exact key _ (by simp[binOp,Op.intCmp])
  ·obtain⟨rfl,rfl,rfl⟩:=q0q hc
   exact key _ (by simp[binOp,Op.intCmp])
  ·obtain⟨rfl,rfl,rfl⟩:=q0q hc
   exact key _ (by simp[binOp,Op.intCmp])
  ·obtain⟨rfl,rfl,rfl⟩:=q0q hc
   exact key _ (by simp[binOp,Op.intCmp])
  ·obtain⟨rfl,rfl,rfl⟩:=q0q hc
   exact key _ u2a
  ·unfold u6q at hc
   obtain⟨rfl,rfl,rfl⟩:=q1s hc
   exact key _ (k0c hps)
  ·unfold u6q at hc
   obtain⟨rfl,rfl,rfl⟩:=q1s hc
   exact key _ (k3d hps)
  ·cases hc
 ·rename_i a b
  split at hc
  ·rename_i td ht
   cases hb:td.isBool with
   |false=>rw[hb]at hc;cases hc
   |true=>
    rw[hb]at hc
    simp only[cond_true]at hc
    obtain⟨u,u',e,hd,hd'⟩:=q4u hin
    rw[←hv]at e
    cases e
    have hx:=q0b hd
    have hy:=q0b hd'
    obtain⟨d,hu,hdd⟩:=(hcx.ty t td ht).desc
    have hdb:d=.bool:=by cases d<;>simp[descOf,hb]at hdd;rfl
    subst hdb
    have heq:(Op.equal t (.bool a) (.bool b)).run P g.W=.ok (a==b) g.W:=run_equalIn_bool 9999 hu a b g.W
    unfold v2f at hc
    split at hc
    ·obtain⟨rfl,rfl,rfl⟩:=q0q hc
     refine .of_run (u:=.bool (a==b)) (W':=g.W) ?_ (q0m hm (q0g _))
     simp[execOp,hop,hx,hy,Result.andThen,eqGuard,binOp,heq]
    ·obtain⟨rfl,rfl,rfl⟩:=q0q hc
     refine .of_run (u:=.bool (!(a==b))) (W':=g.W) ?_ (q0m hm (q0g _))
     simp[execOp,hop,hx,hy,Result.andThen,eqGuard,binOp,heq]
    ·cases hc
  ·cases hc
 ·rename_i a b
  split at hc
  ·rename_i td ht
   cases hb:Nat.beq td.ik 9 with
   |false=>rw[hb]at hc;cases hc
   |true=>
    rw[hb]at hc
    simp only[cond_true]at hc
    obtain⟨u,u',e,hd,hd'⟩:=q4u hin
    rw[←hv]at e
    cases e
    have hx:=q0b hd
    have hy:=q0b hd'
    unfold v2m at hc
    split at hc
    ·obtain⟨rfl,rfl,rfl⟩:=q0q hc
     refine .of_run (u:=.bool (a.toList==b.toList)) (W':=g.W) ?_ (q0m hm (q0g _))
     simp[execOp,hop,hx,hy,Result.andThen,eqGuard,binOp,Op.stringOp]
    ·obtain⟨rfl,rfl,rfl⟩:=q0q hc
     refine .of_run (u:=.bool (!(a.toList==b.toList))) (W':=g.W) ?_ (q0m hm (q0g _))
     simp[execOp,hop,hx,hy,Result.andThen,eqGuard,binOp,Op.stringOp]
    ·obtain⟨rfl,rfl,rfl⟩:=q1s hc
     have hps':a.size+b.size≤maxLen:=hps
     have hle:¬(9223372036854775807<(a.size:Int)+(b.size:Int)):=by unfold maxLen at hps';omega
     refine .of_run (u:=.string (a++b)) (W':=g.W) ?_ (q0m hm (q0g _))
     simp[execOp,hop,hx,hy,Result.andThen,eqGuard,binOp,Op.stringOp,hle]
    ·cases hc
  ·cases hc
 ·rename_i k a k' b _
  obtain⟨u,u',e,hd,hd'⟩:=q4u hin
  rw[←hv]at e
  cases e
  have hx:=q0b hd
  have hy:=q0b hd'
  have key:∀w:Value,(binOp op t (.int k a) (.int k' b)).run P g.W=.ok w g.W→Eff P ρ o g.W (Good w0 G0 g nm (q2e H []) (.im (.val w))):=by
   intro w hw
   refine .of_run (u:=w) (W':=g.W) ?_ (q0m hm (q0g _))
   simp[execOp,hop,hx,hy,hw,Result.andThen,eqGuard]
  cases hsh:x8o op with
  |true=>
   rw[hsh]at hc
   simp only[cond_true]at hc
   cases hk1:Nat.beq (kNo k) 1 with
   |false=>rw[hk1]at hc;cases hc
   |true=>
    rw[hk1]at hc
    simp only[cond_true]at hc
    have hki:k=.i64:=by cases k<;>first|rfl|(simp[kNo]at hk1)
    subst hki
    unfold u6q at hc
    split at hc
    ·obtain⟨rfl,rfl,rfl⟩:=q1s hc
     exact key _ (k0c hps)
    ·obtain⟨rfl,rfl,rfl⟩:=q1s hc
     exact key _ (k3d hps)
    ·cases hc
  |false=>
   rw[hsh]at hc
   simp only[cond_false]at hc
   cases hkk:Nat.beq (kNo k) (kNo k')with
   |false=>rw[hkk]at hc;cases hc
   |true=>
    rw[hkk]at hc
    simp only[cond_true]at hc
    have hki:k=k':=u2o (Qb0 hkk)
    subst hki
    unfold v2i at hc
    split at hc
    ·obtain⟨rfl,rfl,rfl⟩:=q1s hc
     exact key _ (by simp[binOp,Op.intArith,z7p hps])
    ·obtain⟨rfl,rfl,rfl⟩:=q1s hc
     exact key _ (by simp[binOp,Op.intArith,z7p hps])
    ·obtain⟨rfl,rfl,rfl⟩:=q1s hc
     exact key _ (by simp[binOp,Op.intArith,z7p hps])
    ·obtain⟨rfl,rfl,rfl⟩:=q0q hc
     exact key _ (by simp[binOp,Op.intCmp])
    ·obtain⟨rfl,rfl,rfl⟩:=q0q hc
     exact key _ (by simp[binOp,Op.intCmp])
    ·obtain⟨rfl,rfl,rfl⟩:=q0q hc
     exact key _ (by simp[binOp,Op.intCmp])
    ·obtain⟨rfl,rfl,rfl⟩:=q0q hc
     exact key _ (by simp[binOp,Op.intCmp])
    ·obtain⟨rfl,rfl,rfl⟩:=q0q hc
     exact key _ (by simp[binOp,Op.intCmp])
    ·obtain⟨rfl,rfl,rfl⟩:=q0q hc
     exact key _ (by simp[binOp,Op.intCmp])
    ·cases hc
 ·cases hc
theorem k6y {n:Nat}:u8n (20+n)=none:=by
 unfold u8n
 split<;>first|omega|rfl
theorem u4y {H:Nat→Option q0d} {r nm:Nat} {ob:q0d} {x:Nat} {o:q0d} (h:q2e H [(r,none),(nm,some ob)] x=some o):(x=nm∧o=ob)∨(x≠nm∧x≠r∧H x=some o):=by
 simp only[q2e,Qe2,Qm6,upd]at h
 by_cases e:x=nm
 ·subst e;rw[q6x]at h;simp at h;exact .inl ⟨rfl,h.symm⟩
 ·rw[q4x e]at h
  by_cases e2:x=r
  ·subst e2;rw[q6x]at h;cases h
  ·rw[q4x e2]at h;exact .inr ⟨e,e2,h⟩
theorem x3q {H:Nat→Option q0d} {nm:Nat} {ob:q0d} {x:Nat} {o:q0d} (h:q2e H [(nm,some ob)] x=some o):(x=nm∧o=ob)∨(x≠nm∧H x=some o):=by
 simp only[q2e,Qe2,Qm6,upd]at h
 by_cases e:x=nm
 ·subst e;rw[q6x]at h;simp at h;exact .inl ⟨rfl,h.symm⟩
 ·rw[q4x e]at h;exact .inr ⟨e,h⟩
theorem y5s (hcx:q1c P cx) (hhp:∀r o,hp r=some o→H r=some o) (hm:MOk w0 G0 g H) (hn:¬g.U nm) (hin:q0e g ins vs) {s d:Nat} (hc:j7t cx nm s d hp ins=some (ps,v,hs)) (hps:q3n ps) {x:Operand} (hop:o.op=.convert s d x) (hv:[ρ x]=vs):Eff P ρ o g.W (Good w0 G0 g nm (q2e H hs) v):=by
 unfold j7t at hc
 split at hc
 ·rename_i k n
  split at hc
  ·rename_i sd dd hs1 hd1
   split at hc
   ·rename_i k' hk
    obtain⟨rfl,rfl,rfl⟩:=q1s hc
    obtain⟨u,e,hd⟩:=q4w hin
    rw[←hv]at e
    cases e
    have hx:=q0b hd
    obtain⟨ds,hus,_⟩:=(hcx.ty s sd hs1).desc
    obtain⟨dd',hud,hdd⟩:=(hcx.ty d dd hd1).desc
    have hdk:dd'=.int k':=by
     have h1:(descOf dd').2.2.2.2=dd.ik:=by rw[hdd]
     unfold descOf at h1
     split at h1<;>simp only at h1
     all_goals first
      |(rename_i kk;rw[←h1]at hk;cases kk<;>simp[kNo,u8n]at hk<;>rw[hk])
      |(rw[←h1,k6y]at hk;cases hk)
      |(rw[←h1]at hk;simp[u8n]at hk)
    subst hdk
    refine .of_run (u:=.int k' n) (W':=g.W) ?_ (q0m hm (q0g _))
    simp[execOp,hop,hx,convert,run_underlying hus,run_underlying hud,Conv.intToInt,z7p hps,Result.andThen]
   ·cases hc
  ·cases hc
 ·cases hc
theorem u6a (hm:MOk w0 G0 g H) (hin:q0e g ins vs) (hc:v0t ins=some (ps,v,hs)) {t:Nat} {x:Operand} (hop:o.op=.unOp .not t x) (hv:[ρ x]=vs):Eff P ρ o g.W (Good w0 G0 g nm (q2e H hs) v):=by
 unfold v0t at hc
 split at hc
 ·obtain⟨rfl,rfl,rfl⟩:=q0q hc
  obtain⟨u,e,hd⟩:=q4w hin
  rw[←hv]at e
  cases e
  have hx:=q0b hd
  refine .of_run (W':=g.W) ?_ (q0m hm (q0g _))
  simp[execOp,hop,hx,Op.unary]
 ·cases hc
theorem u3o (hm:MOk w0 G0 g H) (hin:q0e g ins vs) (hc:v1s ins=some (ps,v,hs)) (hps:q3n ps) {t:Nat} {x:Operand} (hop:o.op=.unOp .neg t x) (hv:[ρ x]=vs):Eff P ρ o g.W (Good w0 G0 g nm (q2e H hs) v):=by
 unfold v1s at hc
 split at hc
 ·rename_i n
  obtain⟨rfl,rfl,rfl⟩:=q1s hc
  obtain⟨u,e,hd⟩:=q4w hin
  rw[←hv]at e
  cases e
  have hx:=q0b hd
  have hps':Fit (0-n):=by have:Fit (-n):=hps;rwa [Int.zero_sub]
  refine .of_run (u:=.int .i64 (-n)) (W':=g.W) ?_ (q0m hm (q0g _))
  simp[execOp,hop,hx,Op.unary,Op.intArith,IntWalk.i64_in _ hps']
  exact IntWalk.i64_in _ hps
 ·cases hc
theorem j3w (hcx:q1c P cx) (hm:MOk w0 G0 g H) (hin:q0e g ins vs) {t f:Nat} (hc:z4c cx t f ins=some (ps,v,hs)) {x:Operand} (hop:o.op=.fieldAddr t x f) (hv:[ρ x]=vs):Eff P ρ o g.W (Good w0 G0 g nm (q2e H hs) v):=by
 unfold z4c at hc
 split at hc
 ·rename_i y
  split at hc
  ·rename_i td ht
   split at hc
   ·rename_i off ft hf
    split at hc
    ·rename_i fd hft
     cases hz:Nat.beq fd.size 0 with
     |true=>rw[hz]at hc;cases hc
     |false=>
      rw[hz]at hc
      simp only[cond_false]at hc
      have hsz:fd.size≠0:=fun e=>by rw[e]at hz;cases hz
      obtain⟨fs,hu,fl,hfl,e1,e2⟩:=(hcx.ty t td ht).field hf
      obtain⟨u,e,hd⟩:=q4w hin
      rw[←hv]at e
      cases e
      have hs2:=(hcx.ty ft fd hft).sizeOf
      have key:∀b k,ρ x=.pointer (some ⟨b,k,none⟩)→(execOp ρ o).run P g.W=.ok (.value (.pointer (some ⟨b,k+off,none⟩))) g.W:=by
       intro b k hx
       simp[execOp,hop,hx,Instr.fieldAt,run_underlying hu,hfl,Instr.sureAddr,fieldPlace,e2,hs2,hsz,e1,q5c,Result.andThen]
      split at hc
      ·obtain⟨rfl,rfl,rfl⟩:=q0q hc
       simp only[Den]at hd
       obtain⟨hU,b,hb,hx⟩:=hd
       refine .of_run (key _ _ hx) (q0m hm ?_)
       simp only[Den]
       exact⟨hU,b,hb,rfl⟩
      ·obtain⟨rfl,rfl,rfl⟩:=q0q hc
       simp only[Den]at hd
       obtain⟨b,k,hx,hG,hcell⟩:=hd
       refine .of_run (key _ _ hx) (q0m hm ?_)
       simp only[Den]
       refine⟨b,k+off,rfl,hG,fun j y hy=>?_⟩
       rw[Qh4]at hy
       rw[Qg5]
       exact hcell (off+j) y hy
      ·cases hc
    ·cases hc
   ·cases hc
  ·cases hc
 ·cases hc
theorem y1u {t:Nat} {td:TD} (h:z4y P t td) (W:World) (us:List Value) (off:Nat) {cs:List AV} (hd:q0e g cs us) {v:AV} (hr:q9a td (cs.drop off)=some v):
 ∃u,(part t us.toArray off).run P W=.ok u W∧Den g v u:=by
 unfold part
 rw[Sem.run_bind,h.isAgg W]
 simp only[Result.andThen]
 unfold q9a at hr
 have hd':=hd.drop off
 cases ha:td.isAgg with
 |true=>
  rw[ha]at hr
  simp only[cond_true]at hr
  cases hl:Nat.ble td.size (cs.drop off).length with
  |false=>rw[hl]at hr;cases hr
  |true=>
   rw[hl]at hr
   simp only[cond_true,Option.some.injEq]at hr
   subst hr
   refine⟨.agg ((us.drop off).take td.size).toArray,?_,?_⟩
   ·simp only[if_true,Sem.run_bind,h.sizeOf W,Result.andThen,Sem.run_pure]
    congr 2
    simp[List.extract_eq_take_drop,Nat.add_sub_cancel_left]
   ·simp only[Den];exact⟨_,rfl,hd'.take _⟩
 |false=>
  rw[ha]at hr
  simp only[cond_false]at hr
  generalize hcs:cs.drop off=l at hr hd'
  cases l with
  |nil=>cases hr
  |cons x l=>
   simp only[List.head?_cons,Option.some.injEq]at hr
   subst hr
   simp only[q0e]at hd'
   obtain⟨u,vs',e,hx,_⟩:=hd'
   refine⟨u,?_,hx⟩
   have h1:us[off]? =some u:=by
    have:=congrArg (fun l=>l[0]?) e
    simpa using this
   simp[h1]
theorem x9v (hcx:q1c P cx) (hm:MOk w0 G0 g H) (hin:q0e g ins vs) {t f:Nat} (hc:k0j cx t f ins=some (ps,v,hs)) {x:Operand} (hop:o.op=.field t x f) (hv:[ρ x]=vs):Eff P ρ o g.W (Good w0 G0 g nm (q2e H hs) v):=by
 unfold k0j at hc
 split at hc
 ·rename_i xs
  split at hc
  ·rename_i td ht
   split at hc
   ·rename_i off ft hf
    split at hc
    ·rename_i fd hft
     split at hc
     ·rename_i y hy
      obtain⟨rfl,rfl,rfl⟩:=q0q hc
      obtain⟨fs,hu,fl,hfl,e1,e2⟩:=(hcx.ty t td ht).field hf
      obtain⟨u,e,hd⟩:=q4w hin
      rw[←hv]at e
      cases e
      simp only[Den]at hd
      obtain⟨us,hx,hl⟩:=hd
      obtain⟨z,hz,hdz⟩:=y1u (hcx.ty ft fd hft) g.W us off hl hy
      refine .of_run (W':=g.W) ?_ (q0m hm hdz)
      simp[execOp,hop,hx,Instr.field,run_underlying hu,hfl,asAgg,e1,e2,hz,Result.andThen]
     ·cases hc
    ·cases hc
   ·cases hc
  ·cases hc
 ·cases hc
theorem y6g (hcx:q1c P cx) {t:Nat} {l:LD} (h:z1y cx t l=true):∃e ed,P.underlying t=some (.slice e)∧z4y P e ed∧ed.size=l.st:=by
 unfold z1y at h
 split at h
 ·rename_i td ht
  split at h
  ·rename_i e he
   split at h
   ·rename_i ed hed
    exact⟨e,ed,(hcx.ty t td ht).slice he,hcx.ty e ed hed,Qb0 h⟩
   ·cases h
  ·cases h
 ·cases h
theorem j3r (hcx:q1c P cx) (hm:MOk w0 G0 g H) (hin:q0e g ins vs) (hhp:∀r o,hp r=some o→H r=some o) {t:Nat} (hc:z4e cx t hp ins=some (ps,v,hs)) (hps:q3n ps) {x y:Operand} (hop:o.op=.indexAddr t x y) (hv:[ρ x,ρ y]=vs):Eff P ρ o g.W (Good w0 G0 g nm (q2e H hs) v):=by
 unfold z4e at hc
 split at hc
 ·rename_i r i
  split at hc
  ·rename_i e0 l hr
   cases he0:(z1y cx t l&&Nat.beq l.st 1)with
   |false=>rw[he0]at hc;cases hc
   |true=>
    rw[he0]at hc
    simp only[Qa2]at he0
    have he:=he0.1
    have h3:l.st=1:=Qb0 he0.2
    obtain⟨rfl,rfl,rfl⟩:=q1s hc
    obtain⟨e,ed,hu,hed,hst⟩:=y6g hcx he
    obtain⟨u,u',e',hd,hd'⟩:=q4u hin
    rw[←hv]at e'
    cases e'
    have hy:=q0b hd'
    simp only[Den]at hd
    have hi:0≤i∧i<l.len:=hps
    obtain⟨hU,hx,_⟩:=hd
    obtain⟨_,xs,ho0,h2,h40⟩:=hm.ok r _ (hhp r _ hr)
    obtain⟨ho,h1,h4⟩:=z7a h3 ho0 h40
    rcases ho with⟨_,hnil⟩|⟨b,off,cap,cur,hb,_⟩
    ·rw[hnil]at h1;simp at h1;omega
    ·rw[h1]at hb
     refine .of_run (u:=.pointer (some ⟨b,off+i.toNat,none⟩)) (W':=g.W) ?_ (q0m hm ?_)
     ·simp[execOp,hop,hx,hb,hy,Instr.indexAt,asIntOf,run_underlying hu,hi,hed.sizeOf,hst,h3,q5c,Result.andThen]
     ·simp only[Den]
      exact⟨hU,b,off,l.len,cap,hb,by omega,rfl⟩
  ·cases hc
 ·rename_i r i
  split at hc
  ·rename_i cs td hr ht
   split at hc
   ·rename_i e he
    split at hc
    ·rename_i ed hed
     cases hb0:(td.isAgg&&(Nat.ble 20 td.ik&&(Nat.beq cs.length (td.ik-20)&&Nat.beq ed.size 1)))with
     |false=>rw[hb0]at hc;cases hc
     |true=>
      rw[hb0]at hc
      simp only[Qa2]at hb0
      obtain⟨b1,b2,b3,b4⟩:=hb0
      have b2:=Qc3 b2
      have b3:=Qb0 b3
      have b4:=Qb0 b4
      obtain⟨rfl,rfl,rfl⟩:=q1s hc
      have hu:=(hcx.ty t td ht).array he b1 b2
      rw[←b3]at hu
      obtain⟨u,u',e',hd,hd'⟩:=q4u hin
      rw[←hv]at e'
      cases e'
      have hy:=q0b hd'
      simp only[Den]at hd
      have hi:0≤i∧i<(cs.length:Int):=hps
      obtain⟨hU,b,hb,hx⟩:=hd
      refine .of_run (u:=.pointer (some ⟨b,i.toNat,none⟩)) (W':=g.W) ?_ (q0m hm ?_)
      ·simp[execOp,hop,hx,hy,Instr.indexAt,Instr.sureAddr,asIntOf,run_underlying hu,hi,(hcx.ty e ed hed).sizeOf,b4,q5c,Result.andThen]
      ·simp only[Den]
       exact⟨hU,b,hb,rfl⟩
    ·cases hc
   ·cases hc
  ·cases hc
 ·rename_i l i
  cases he:z1y cx t l with
  |false=>rw[he]at hc;cases hc
  |true=>
   rw[he]at hc
   obtain⟨rfl,rfl,rfl⟩:=q1s hc
   obtain⟨e,ed,hu,hed,hst⟩:=y6g hcx he
   obtain⟨u,u',e',hd,hd'⟩:=q4u hin
   rw[←hv]at e'
   cases e'
   have hy:=q0b hd'
   simp only[Den]at hd
   have hi:0≤i∧i<l.len:=hps
   rcases hd.cases_ls with⟨h0,_⟩|⟨b,off,c,w,hx,hlc,_,hG,hcell,hrep⟩
   ·omega
   ·have hk:i.toNat<l.len:=by omega
    refine .of_run (u:=.pointer (some ⟨b,off+i.toNat*l.st,none⟩)) (W':=g.W) ?_ (q0m hm ?_)
    ·simp[execOp,hop,hx,hy,Instr.indexAt,asIntOf,run_underlying hu,hi,hed.sizeOf,hst,q5c,Result.andThen]
    ·simp only[Den]
     refine⟨b,_,rfl,hG,fun j z hz=>?_⟩
     simp only[Qg6,Qj3]at hz
     obtain⟨k,hk',rfl⟩:=hz
     obtain⟨hj,hjk⟩:=List.getElem?_eq_some_iff.1 hk'
     rw[Ql3]at hjk
     subst hjk
     rw[Qg4]at hj
     exact⟨w i.toNat j,hcell _ _ hk hj,hrep _ _ hk hj⟩
 ·rename_i xs i
  unfold u9l at hc
  split at hc
  ·rename_i td ht
   split at hc
   ·rename_i e he
    split at hc
    ·rename_i ed hed
     cases hb0:(td.isAgg&&(Nat.ble 20 td.ik&&(Nat.beq xs.length (td.ik-20)&&Nat.beq ed.size 1)))with
     |false=>rw[hb0]at hc;cases hc
     |true=>
      rw[hb0]at hc
      simp only[Qa2]at hb0
      obtain⟨b1,b2,b3,b4⟩:=hb0
      have b2:=Qc3 b2
      have b3:=Qb0 b3
      have b4:=Qb0 b4
      obtain⟨rfl,rfl,rfl⟩:=q1s hc
      have hu:=(hcx.ty t td ht).array he b1 b2
      rw[←b3]at hu
      obtain⟨u,u',e',hd,hd'⟩:=q4u hin
      rw[←hv]at e'
      cases e'
      have hy:=q0b hd'
      simp only[Den]at hd
      have hi:0≤i∧i<(xs.length:Int):=hps
      obtain⟨b,off,hx,hG,hcell⟩:=hd
      refine .of_run (u:=.pointer (some ⟨b,off+i.toNat,none⟩)) (W':=g.W) ?_ (q0m hm ?_)
      ·simp[execOp,hop,hx,hy,Instr.indexAt,Instr.sureAddr,asIntOf,run_underlying hu,hi,(hcx.ty e ed hed).sizeOf,b4,q5c,Result.andThen]
      ·simp only[Den]
       refine⟨b,_,rfl,hG,fun j z hz=>?_⟩
       match j,hz with
       |0,hz=>
        have hz:xs.getD i.toNat (.val undef)=z:=by simpa using hz
        rw[Qd9]
        exact hcell i.toNat z (by rw[←hz,Qa1,Qa0 (by omega)];rfl)
       |j+1,hz=>simp at hz
    ·cases hc
   ·cases hc
  ·cases hc
 ·cases hc
theorem y4m (hm:MOk w0 G0 g H) (hin:q0e g ins vs) {k:Nat} (hc:j7o k ins=some (ps,v,hs)) {x:Operand} (hop:o.op=.extract x k) (hv:[ρ x]=vs):Eff P ρ o g.W (Good w0 G0 g nm (q2e H hs) v):=by
 unfold j7o at hc
 split at hc
 ·split at hc
  ·rename_i y hy
   obtain⟨rfl,rfl,rfl⟩:=q0q hc
   obtain⟨u,e,hd⟩:=q4w hin
   rw[←hv]at e
   cases e
   simp only[Den]at hd
   obtain⟨us,hx,hl⟩:=hd
   obtain⟨z,hz,hdz⟩:=hl.get hy
   refine .of_run (W':=g.W) ?_ (q0m hm hdz)
   simp[execOp,hop,hx,Instr.extract,hz]
  ·cases hc
 ·cases hc
theorem k8k (hcx:q1c P cx) {t:Nat} (h:isSlice cx t=true):∃e,P.underlying t=some (.slice e):=by
 unfold isSlice at h
 split at h
 ·rename_i td ht
  obtain⟨e,he⟩:=Option.isSome_iff_exists.1 h
  exact⟨e,(hcx.ty t td ht).slice he⟩
 ·cases h
theorem u4q (hcx:q1c P cx) (hm:MOk w0 G0 g H) (hin:q0e g ins vs) (hhp:∀r o,hp r=some o→H r=some o) {t:Nat} (hc:cLen cx t hp ins=some (ps,v,hs)) {c:Call} {x:Operand} (hop:o.op=.call c) (hb:c.callee=.builtin .len) (ht:c.argTypes= #[t]) (ha:c.args= #[x]) (hv:[ρ x]=vs):
 Eff P ρ o g.W (Good w0 G0 g nm (q2e H hs) v):=by
 have key:∀A n k,isSlice cx t=true→ρ x=.slice A n k→(execOp ρ o).run P g.W=.ok (.value (.int .i64 n)) g.W:=by
  intro A n k hs hx
  obtain⟨e,hu⟩:=k8k hcx hs
  simp[execOp,hop,resolve,hb,ht,ha,invoke,builtin,Builtin.len_,hx,run_underlying hu,goInt,Result.andThen]
 unfold cLen at hc
 split at hc
 ·rename_i r
  split at hc
  ·rename_i e0 l hr
   cases hs:isSlice cx t with
   |false=>rw[hs]at hc;cases hc
   |true=>
    rw[hs]at hc
    obtain⟨rfl,rfl,rfl⟩:=q0q hc
    obtain⟨u,e,hd⟩:=q4w hin
    rw[←hv]at e
    cases e
    simp only[Den]at hd
    obtain⟨_,hx,_⟩:=hd
    obtain⟨_,xs,ho,h2,h4⟩:=hm.ok r _ (hhp r _ hr)
    obtain⟨A,cap,hform,_⟩:=ho.form
    exact .of_run (key A _ cap hs (hx.trans hform)) (q0m hm (q0g _))
  ·cases hc
 ·rename_i l
  cases hs:isSlice cx t with
  |false=>rw[hs]at hc;cases hc
  |true=>
   rw[hs]at hc
   obtain⟨rfl,rfl,rfl⟩:=q0q hc
   obtain⟨u,e,hd⟩:=q4w hin
   rw[←hv]at e
   cases e
   simp only[Den]at hd
   obtain⟨A,k,hx,_⟩:=hd.slice
   exact .of_run (key A _ k hs hx) (q0m hm (q0g _))
 ·rename_i A n k
  cases hs:isSlice cx t with
  |false=>rw[hs]at hc;cases hc
  |true=>
   rw[hs]at hc
   obtain⟨rfl,rfl,rfl⟩:=q0q hc
   obtain⟨u,e,hd⟩:=q4w hin
   rw[←hv]at e
   cases e
   exact .of_run (key _ _ _ hs (q0b hd)) (q0m hm (q0g _))
 ·cases hc
theorem u3s (hm:MOk w0 G0 g H) (hin:q0e g ins vs) (hc:v0e ins=some (ps,v,hs)) {c:Call} {x y:Operand} (hop:o.op=.call c) (hb:c.callee=.builtin .min) (ha:c.args= #[x,y]) (hv:[ρ x,ρ y]=vs):
 Eff P ρ o g.W (Good w0 G0 g nm (q2e H hs) v):=by
 unfold v0e at hc
 split at hc
 ·rename_i a b
  obtain⟨rfl,rfl,rfl⟩:=q0q hc
  obtain⟨u,u',e,hd,hd'⟩:=q4u hin
  rw[←hv]at e
  cases e
  refine .of_run (W':=g.W) ?_ (q0m hm (q0g _))
  have:(if b<a then b else a)=min a b:=by omega
  simp[execOp,hop,resolve,hb,ha,invoke,builtin,q0b hd,q0b hd',run_min_int2,Result.andThen,this]
 ·cases hc
theorem u4f (hm:MOk w0 G0 g H) (hin:q0e g ins vs) (hc:u9x ins=some (ps,v,hs)) {c:Call} {x y:Operand} (hop:o.op=.call c) (hb:c.callee=.builtin .max) (ha:c.args= #[x,y]) (hv:[ρ x,ρ y]=vs):
 Eff P ρ o g.W (Good w0 G0 g nm (q2e H hs) v):=by
 unfold u9x at hc
 split at hc
 ·rename_i a b
  obtain⟨rfl,rfl,rfl⟩:=q0q hc
  obtain⟨u,u',e,hd,hd'⟩:=q4u hin
  rw[←hv]at e
  cases e
  refine .of_run (W':=g.W) ?_ (q0m hm (q0g _))
  have:(if b>a then b else a)=max a b:=by omega
  simp[execOp,hop,resolve,hb,ha,invoke,builtin,q0b hd,q0b hd',run_max_int2,Result.andThen,this]
 ·cases hc
def x4i (w0:Base) (G0:Nat→Prop) (g:Gh) (nm:Nat) (H':Nat→Option q0d) (v:AV) (u:Value) (W':World):Prop:=
 ∃g':Gh,g'.W=W'∧g.le g'∧(∀r,g'.U r↔(g.U r∨q1i nm r=true))∧MOk w0 G0 g' H'∧Den g' v u
theorem z8d (nm:Nat):q1i nm nm=true:=by simp[q1i]
theorem x2m (nm k:Nat):q1i nm (nm+1000*k)=true:=by simp[q1i]
theorem Good.up {w0:Base} {G0:Nat→Prop} {g:Gh} {nm:Nat} {H':Nat→Option q0d} {v:AV} {u:Value} {W':World} (h:Good w0 G0 g nm H' v u W'):x4i w0 G0 g nm H' v u W':=by
 obtain⟨g',rfl,hle,hU,hm,hd⟩:=h
 let g2:Gh:=⟨g'.W,g'.G,g'.β,fun r=>g.U r∨q1i nm r=true⟩
 have hle2:g'.le g2:=⟨fun _ _=>rfl,fun _ h=>h,fun r hr=>⟨by
  rcases(hU r).1 hr with h|h
  ·exact .inl h
  ·exact .inr (by rw[h];exact z8d nm),rfl⟩⟩
 exact⟨g2,rfl,hle.trans hle2,fun _=>Iff.rfl,hm.up hle2 (fun _ _=>rfl) (fun _ h=>.inl h) hm.bel (Qb8 _),Den.mono hle2 _ _ hd⟩
theorem q1v {k:Nat}:∀{l:List Nat},q5q k l=true↔k∈l
 |[]=>by simp[q5q]
 |j::l=>by
  unfold q5q
  by_cases h:j=k
  ·subst h;rw[q6x];simp
  ·rw[q4x h];simp[q1v,Ne.symm h]
theorem j7w:∀{l m:List Nat},k9f l m=true↔∀r∈l,r∈m
 |[],m=>by simp[k9f]
 |r::l,m=>by simp[k9f,q1v,j7w]
theorem j1a:∀{l:List Nat},j0z l=true↔l.Nodup
 |[]=>by simp[j0z]
 |r::l=>by
  have:q5q r l=false↔r∉l:=by
   rw[←q1v]
   cases q5q r l<;>simp
  simp[j0z,j1a,this]
theorem j9o:∀{l:List Nat} {r:Nat},r∈l→l[x0w l r]? =some r
 |[],r,h=>by simp at h
 |j::l,r,h=>by
  unfold x0w
  by_cases e:j=r
  ·subst e;rw[q6x];rfl
  ·rw[q4x e]
   simp only[cond_false,Qa7]
   rcases List.mem_cons.1 h with h|h
   ·exact absurd h.symm e
   ·exact j9o h
theorem z6y {hp:Nat→Option q0d}:∀{l:List Nat} {os:List q0d},y8t hp l=some os→os.length=l.length∧∀(i r:Nat),l[i]? =some r→∃o,os[i]? =some o∧hp r=some o
 |[],os,h=>by cases h;exact⟨rfl,fun i r h=>by simp at h⟩
 |r::l,os,h=>by
  unfold y8t at h
  split at h
  ·rename_i o os' h1 h2
   cases h
   obtain⟨h3,h4⟩:=z6y h2
   refine⟨by simp[h3],fun i r' hi=>?_⟩
   rcases i with _|i
   ·simp at hi;subst hi;exact⟨o,rfl,h1⟩
   ·simpa using h4 i r' (by simpa using hi)
  ·cases h
theorem q6i:∀{hs:List (Nat×Option q0d)} {H:Nat→Option q0d} {x:Nat} {o:q0d},q2e H hs x=some o→(x,some o)∈hs∨(x∉hs.map (·.1)∧H x=some o)
 |[],H,x,o,h=>.inr ⟨by simp,h⟩
 |(k,y)::l,H,x,o,h=>by
  simp only[q2e,Qe2]at h
  rcases q6i (hs:=l) (H:=upd H k y) h with h1|⟨h1,h2⟩
  ·exact .inl (Qb7 _ h1)
  ·by_cases e:x=k
   ·subst e
    unfold upd at h2
    rw[q6x]at h2
    simp only[cond_true]at h2
    rw[h2]
    exact .inl Qb4
   ·unfold upd at h2
    rw[q4x e]at h2
    exact .inr ⟨by simp[e];simpa using h1,h2⟩
theorem z1i {f:Nat→Nat}:∀{outs:List (Option q0d)} {k x:Nat} {o:q0d},(x,some o)∈q8o f k outs→∃i oi,outs[i]? =some (some oi)∧x=f (k+i)∧o=y3g f oi
 |[],k,x,o,h=>by simp[q8o]at h
 |y::l,k,x,o,h=>by
  simp only[q8o,Qf1,Prod.mk.injEq]at h
  rcases h with⟨h1,h2⟩|h
  ·cases y with
   |none=>simp at h2
   |some oi=>simp at h2;exact⟨0,oi,rfl,h1,h2⟩
  ·obtain⟨i,oi,h1,h2,h3⟩:=z1i h
   exact⟨i+1,oi,by simpa using h1,by rw[h2];congr 1;omega,h3⟩
theorem z4u {f:Nat→Nat}:∀{outs:List (Option q0d)} {k i:Nat},i<outs.length→f (k+i)∈(q8o f k outs).map (·.1)
 |[],k,i,h=>by simp at h
 |y::l,k,0,h=>by simp[q8o]
 |y::l,k,i+1,h=>by
  have:=z4u (f:=f) (outs:=l) (k:=k+1) (i:=i) (by simpa using h)
  simp only[q8o,Qc6,Qf1]
  exact .inr (by rw[show k+(i+1)=k+1+i by omega];exact this)
theorem z5f {hp:Nat→Option q0d}:∀{l:List Nat} {r x:Nat} {o:q0d},r∈l→hp r=some o→x∈o.refs→x∈q4c hp l
 |[],r,x,o,h,_,_=>by simp at h
 |j::l,r,x,o,h,ho,hx=>by
  simp only[q4c,Qf4]
  rcases List.mem_cons.1 h with rfl|h
  ·left;unfold y7j;rw[ho];exact hx
  ·exact .inr (z5f h ho hx)
theorem z2a.map {g g':Gh} {f:Nat→Nat} (hW:g'.W=g.W) (hG:g'.G=g.G) {v:Value} {o:q0d} (hf:∀r∈o.refs,g.U r→g'.U (f r)∧g'.β (f r)=g.β r) (h:z2a g v o):z2a g' v (y3g f o):=by
 cases o with
 |box cs=>
  obtain⟨b,t,arr,rfl,hw,hd⟩:=h
  exact⟨b,t,arr,rfl,by rw[hW];exact hw,hd.map hW hG _ _ hf⟩
 |other b o=>
  obtain⟨rfl,hw⟩:=h
  exact⟨rfl,by rw[hW];exact hw⟩
 |mset ks=>
  obtain⟨b,rfl,hw⟩:=h
  exact⟨b,rfl,by rw[hW];exact hw⟩
 |mfun ks cs=>
  obtain⟨b,us,rfl,hl,hw,hd⟩:=h
  exact⟨b,us,rfl,hl,by rw[hW];exact hw,hd.map hW hG _ _ hf⟩
 |row e l=>
  obtain⟨xs,ho,h2,h4⟩:=h
  exact⟨xs,by rw[hW];exact ho,h2,by rw[hW,hG];exact h4⟩
theorem y1l {g gc:Gh} {names:List Nat} {nm:Nat} (hn:∀r,q1i nm r=true→¬g.U r) (hnames:∀(i r:Nat),names[i]? =some r→g.U r∧gc.U i∧gc.β i=g.β r) {gc':Gh} (hle:gc.le gc') (i:Nat):
 (g.U (q3f names nm i)∨q1i nm (q3f names nm i)=true)∧(open Classical in if g.U (q3f names nm i)then g.β (q3f names nm i)else gc'.β (names.length+(q3f names nm i-nm)/1000))=gc'.β i:=by
 classical
 unfold q3f
 cases hi:names[i]? with
 |some r=>
  obtain⟨h1,h2,h3⟩:=hnames i r hi
  simp only
  exact⟨.inl h1,by rw[if_pos h1,←h3,(hle.name i h2).2]⟩
 |none=>
  simp only
  have hge:names.length≤i:=List.getElem?_eq_none_iff.1 hi
  have hnew:=x2m nm (i-names.length)
  refine⟨.inr hnew,?_⟩
  rw[if_neg (hn _ hnew)]
  congr 1
  omega
mutual
theorem Den.scalarMap {g g':Gh} {f:Nat→Nat} (hf:∀r,g.U r→g'.U (f r)∧g'.β (f r)=g.β r):∀(x:AV) (v:Value),x.scalar=true→Den g x v→Den g' (q8z f x) v
 |.any,_,hs,_=>by simp[AV.scalar]at hs
 |.im x,v,hs,hd=>by
  simp only[q8z]
  unfold AV.scalar at hs
  split at hs
  ·rename_i h;cases h
  ·rename_i h;cases h
  ·rename_i h;cases h;rw[q0b hd];exact q0g _
  ·rename_i h;cases h;rw[q0b hd];exact q0g _
  ·rename_i h;cases h;rw[q0b hd];exact q0g _
  ·rename_i h;cases h
  ·rename_i h;cases h
  ·cases hs
 |.opt c x,v,hs,_=>by simp[AV.scalar]at hs
 |.agg xs,v,hs,hd=>by simp only[q8z,Den]at hd⊢;obtain⟨vs,e,hl⟩:=hd;exact⟨vs,e,q0e.scalarMap hf xs vs (by simpa only[AV.scalar]using hs) hl⟩
 |.tup xs,v,hs,hd=>by simp only[q8z,Den]at hd⊢;obtain⟨vs,e,hl⟩:=hd;exact⟨vs,e,q0e.scalarMap hf xs vs (by simpa only[AV.scalar]using hs) hl⟩
 |.loc r off,v,hs,_=>by simp[AV.scalar]at hs
 |.pto xs,v,hs,_=>by simp[AV.scalar]at hs
 |.row r,v,_,hd=>by
  simp only[q8z,Den]at hd⊢
  have:=hf r hd.1
  exact⟨this.1,hd.2.1.trans this.2.symm,hd.2.2⟩
 |.prow r i j,v,hs,_=>by simp[AV.scalar]at hs
 |.clo k xs,v,hs,_=>by simp[AV.scalar]at hs
 |.err b,v,_,hd=>by simp only[q8z,Den]at hd⊢;exact hd
theorem q0e.scalarMap {g g':Gh} {f:Nat→Nat} (hf:∀r,g.U r→g'.U (f r)∧g'.β (f r)=g.β r):∀(xs:List AV) (vs:List Value),z6s xs=true→q0e g xs vs→q0e g' (z0h f xs) vs
 |[],vs,_,hd=>by simpa only[z0h,q0e]using hd
 |x::l,vs,hs,hd=>by
  simp only[z0h,q0e]at hd⊢
  simp only[z6s,Qa2]at hs
  obtain⟨v,vs',e,h1,h2⟩:=hd
  exact⟨v,vs',e,Den.scalarMap hf x v hs.1 h1,q0e.scalarMap hf l vs' hs.2 h2⟩
end
theorem k4i {W W':World} {G G':Nat→Prop} {l:LD} (hl:l.flat=true) {i j:Nat} {u:Value} (h:Rep W G (l.cell i j) u):Rep W' G' (l.cell i j) u:=by
 have hval:∀x:Value,Rep W G (.val x) u→Rep W' G' (.val x) u:=fun x hx=>by
  have:u=x:=by
   generalize hy:IV.val x=y at hx
   cases hx with
   |val v=>cases hy;rfl
   |nil _ _ _ _=>cases hy
   |ls _ _ _ _ _ _ _ _ _ _=>cases hy
  rw[this];exact .val x
 cases l with
 |ints xs=>exact hval _ h
 |bools xs=>exact hval _ h
 |bytes xs=>exact hval _ h
 |strs xs=>exact hval _ h
 |_=>simp[LD.flat]at hl
theorem q6f:g.le ⟨g.W,fun b=>g.G b∨∃r o,H r=some o∧q1k (g.β r)=some b,g.β,g.U⟩:=⟨fun _ _=>rfl,fun _ h=>.inl h,fun _ h=>⟨h,rfl⟩⟩
abbrev x6q (H:Nat→Option q0d) (g:Gh):Gh:=⟨g.W,fun b=>g.G b∨∃r o,H r=some o∧q1k (g.β r)=some b,g.β,g.U⟩
theorem x0t (hm:MOk w0 G0 g H) {r e:Nat} {d:LD} {u:Value} (hH:H r=some (.row e d)) (hd:Den g (.row r) u):Rep g.W (x6q H g).G (.ls d) u:=by
 have hle:g.le (x6q H g):=q6f
 simp only[Den]at hd
 obtain⟨_,rfl,_⟩:=hd
 obtain⟨_,xs,ho,h2,h4⟩:=hm.ok r _ hH
 rcases ho.cells with⟨hv,hn⟩|⟨b,off,cap,hv,h5,h6⟩
 ·rw[hv];exact .nil d none 0 hn
 ·have hlen:=ho.len
  rw[hv]
  refine .ls d b off cap (fun i j=>xs.getD (i*d.st+j) undef) h5 h2 (.inr ⟨r,_,hH,by rw[hv];rfl⟩) (fun i j hi hj=>?_) (fun i j hi hj=>hle.rep (h4 i j hi hj))
  have hlt:i*d.st+j<xs.length:=by
   rw[hlen]
   calc i*d.st+j<i*d.st+d.st:=by omega
    _=(i+1)*d.st:=by rw[Qk5,Qq7]
    _≤d.len*d.st:=Qk1 _ hi
  have:=h6 _ hlt
  rw[←Qg5]at this
  rw[this]
  simp[List.getD,Qa0 hlt]
theorem j3q (hhp:∀r o,hp r=some o→H r=some o) (hm:MOk w0 G0 g H):∀{cs:List AV} {us:List Value} {xs:List IV},q8m hp cs=some xs→q0e g cs us→∀(j:Nat) (x:IV),xs[j]? =some x→∃u,us[j]? =some u∧Rep g.W (x6q H g).G x u
 |[],us,xs,h,hd,j,x,hx=>by simp only[q8m,Option.some.injEq]at h;subst h;simp at hx
 |.im y::l,us,xs,h,hd,j,x,hx=>by
  simp only[q8m]at h
  simp only[q0e,Den]at hd
  obtain⟨u,us',rfl,h1,h2⟩:=hd
  split at h
  ·rename_i m hm2
   simp only[Option.some.injEq]at h
   subst h
   match j,hx with
   |0,hx=>simp at hx;subst hx;exact⟨u,rfl,(q6f (H:=H)).rep h1⟩
   |j+1,hx=>exact j3q hhp hm hm2 h2 j x (by simpa using hx)
  ·cases h
 |.row r::l,us,xs,h,hd,j,x,hx=>by
  simp only[q8m]at h
  simp only[q0e]at hd
  obtain⟨u,us',rfl,h1,h2⟩:=hd
  split at h
  ·rename_i e d m hr hm2
   simp only[Option.some.injEq]at h
   subst h
   match j,hx with
   |0,hx=>simp at hx;subst hx;exact⟨u,rfl,x0t hm (hhp r _ hr) h1⟩
   |j+1,hx=>exact j3q hhp hm hm2 h2 j x (by simpa using hx)
  ·cases h
 |.any::l,us,xs,h,hd,j,x,hx=>by simp[q8m]at h
 |.opt _ _::l,us,xs,h,hd,j,x,hx=>by simp[q8m]at h
 |.agg _::l,us,xs,h,hd,j,x,hx=>by simp[q8m]at h
 |.tup _::l,us,xs,h,hd,j,x,hx=>by simp[q8m]at h
 |.loc _ _::l,us,xs,h,hd,j,x,hx=>by simp[q8m]at h
 |.pto _::l,us,xs,h,hd,j,x,hx=>by simp[q8m]at h
 |.prow _ _ _::l,us,xs,h,hd,j,x,hx=>by simp[q8m]at h
 |.clo _ _::l,us,xs,h,hd,j,x,hx=>by simp[q8m]at h
 |.err _::l,us,xs,h,hd,j,x,hx=>by simp[q8m]at h
theorem k5a (hhp:∀r o,hp r=some o→H r=some o) (hm:MOk w0 G0 g H) {r off:Nat} {cs:List AV} {xs:List IV} {u:Value} (hr:hp r=some (.box cs)) (hx:q8m hp cs=some xs) (hd:Den g (.loc r off) u):Den (x6q H g) (.pto (xs.drop off)) u:=by
 simp only[Den]at hd⊢
 obtain⟨_,b,hβ,rfl⟩:=hd
 obtain⟨_,b',t,arr,hv,hw,hc⟩:=hm.ok r _ (hhp r _ hr)
 rw[hβ]at hv
 cases hv
 refine⟨b,off,rfl,.inr ⟨r,_,hhp r _ hr,by rw[hβ];rfl⟩,fun j x hj=>?_⟩
 rw[Qh4]at hj
 obtain⟨u,h1,h2⟩:=j3q hhp hm hx hc (off+j) x hj
 refine⟨u,?_,h2⟩
 show g.W.cell? ⟨b,off+j,none⟩=some u
 rw[cell_of_row g.W b (off+j) arr t (0,0) hw]
 simpa using h1
mutual
theorem x7z (hhp:∀r o,hp r=some o→H r=some o) (hm:MOk w0 G0 g H):∀(x:AV) (u:Value),Den g x u→Den (x6q H g) (y4i hp x) u
 |.row r,u,hd=>by
  simp only[y4i]
  split
  ·rename_i e d hr
   have:=x0t hm (hhp r _ hr) hd
   simp only[Den];exact this
  ·simp only[Den]
 |.agg xs,u,hd=>by simp only[y4i,Den]at hd⊢;obtain⟨vs,e,hl⟩:=hd;exact⟨vs,e,z6f hhp hm xs vs hl⟩
 |.any,u,hd=>by simp only[y4i,Den]
 |.im x,u,hd=>Den.mono q6f (.im x) u hd
 |.opt c x,u,hd=>Den.mono q6f (.opt c x) u hd
 |.tup x,u,hd=>Den.mono q6f (.tup x) u hd
 |.loc r off,u,hd=>by
  simp only[y4i]
  split
  ·rename_i cs hr
   split
   ·rename_i xs hx
    exact k5a hhp hm hr hx hd
   ·exact Den.mono q6f (.loc r off) u hd
  ·exact Den.mono q6f (.loc r off) u hd
 |.pto x,u,hd=>Den.mono q6f (.pto x) u hd
 |.prow r i j,u,hd=>Den.mono q6f (.prow r i j) u hd
 |.clo k x,u,hd=>by simp only[y4i,Den]at hd⊢;obtain⟨vs,e,hl⟩:=hd;exact⟨vs,e,z6f hhp hm x vs hl⟩
 |.err b,u,hd=>Den.mono q6f (.err b) u hd
theorem z6f (hhp:∀r o,hp r=some o→H r=some o) (hm:MOk w0 G0 g H):∀(args:List AV) (us:List Value),q0e g args us→
 q0e ⟨g.W,fun b=>g.G b∨∃r o,H r=some o∧q1k (g.β r)=some b,g.β,g.U⟩ (k4g hp args) us
 |[],us,h=>by simpa only[k4g,q0e]using h
 |x::l,us,h=>by
  simp only[k4g,q0e]at h⊢
  obtain⟨u,us',rfl,h1,h2⟩:=h
  exact⟨u,us',rfl,x7z hhp hm x u h1,z6f hhp hm l us' h2⟩
end
theorem y1d {ε:Ending→Value→Prop} {σ:CtF} {f:Nat} {all:List AV} {args:Array Value} {hs':List (Nat×Option q0d)} (hs:q3v P f σ ε) (hhp:∀r o,hp r=some o→H r=some o) (hm:MOk w0 G0 g H) (hn:∀r,q1i nm r=true→¬g.U r) (hin:q0e g all args.toList)
 (hc:j1q σ nm hp all=some (ps,v,hs')) (hps:q3n ps):Calls P f args g.W (fun e W'=>∃u,ε e u∧x4i w0 G0 g nm (q2e H hs') v u W'):=by
 classical
 unfold j1q at hc
 generalize q8r hp all=names at hc
 split at hc
 ·rename_i os hos
  cases hb:(j0z names&&(k9f (q6l all) names&&k9f (q4c hp names) names))with
  |false=>rw[hb]at hc;cases hc
  |true=>
   rw[hb]at hc
   simp only[cond_true]at hc
   split at hc
   ·rename_i p r outs hσ
    cases hbl:Nat.ble os.length outs.length with
    |false=>rw[hbl]at hc;cases hc
    |true=>
     rw[hbl]at hc
     simp only[cond_true,Option.some.injEq,Prod.mk.injEq]at hc
     obtain⟨rfl,rfl,rfl⟩:=hc
     simp only[Qa2]at hb
     have hnd:=j1a.1 hb.1
     have hsub1:=j7w.1 hb.2.1
     have hsub2:=j7w.1 hb.2.2
     have hle0:=Qc3 hbl
     obtain⟨hlen,hobj⟩:=z6y hos
     have hp':p:=hps
     let gc:Gh:=⟨g.W,g.G,fun i=>match names[i]? with|some r=>g.β r|none=>undef,fun i=>i<names.length⟩
     have hobj':∀i r,names[i]? =some r→∃o,os[i]? =some o∧hp r=some o∧H r=some o:=fun i r hi=>by
      obtain⟨o,h1,h2⟩:=hobj i r hi
      exact⟨o,h1,h2,hhp r o h2⟩
     have hnames:∀(i r:Nat),names[i]? =some r→g.U r∧gc.U i∧gc.β i=g.β r:=fun i r hi=>by
      obtain⟨o,_,_,h3⟩:=hobj' i r hi
      refine⟨(hm.ok r o h3).1,(List.getElem?_eq_some_iff.1 hi).1,?_⟩
      show(match names[i]? with|some r=>g.β r|none=>undef)=g.β r
      rw[hi]
     have hix:∀r∈names,g.U r→gc.U (x0w names r)∧gc.β (x0w names r)=g.β r:=fun r hr _=>(hnames _ _ (j9o hr)).2
     have hcos:(os.map (y3g (x0w names))).length=names.length:=by simp[hlen]
     have hlent:∀b,q5p gc (os.map (y3g (x0w names))) b→∃r o,r∈names∧H r=some o∧q1k (g.β r)=some b:=by
      rintro b ⟨i,hi,hbk⟩
      rw[hcos]at hi
      have hi':=Qa0 hi
      obtain⟨o,_,_,h3⟩:=hobj' i _ hi'
      rw[(hnames i _ hi').2.2]at hbk
      exact⟨_,o,Qc7 hi,h3,hbk⟩
     have hmc:MOk ⟨g.W,q5p gc (os.map (y3g (x0w names))),(os.map (y3g (x0w names))).length,gc.β,[]⟩ g.G gc (q8e (os.map (y3g (x0w names)))):=by
      have hget:∀i o,q8e (os.map (y3g (x0w names))) i=some o→∃r oi,names[i]? =some r∧H r=some oi∧hp r=some oi∧o=y3g (x0w names) oi:=by
       intro i o hi
       simp only[q8e,Qg6,Qj3]at hi
       obtain⟨oi,h1,rfl⟩:=hi
       have hlt:i<names.length:=by rw[←hlen];exact(List.getElem?_eq_some_iff.1 h1).1
       have hi':=Qa0 hlt
       obtain⟨o',h2,h3,h4⟩:=hobj' i _ hi'
       rw[h1]at h2
       cases h2
       exact⟨_,oi,hi',h4,h3,rfl⟩
      refine⟨?_,?_,?_,fun b hb=>⟨(hm.gb b hb).1,.inl hb⟩,Kp.refl _ _,fun i hi=>⟨by rw[hcos]at hi;exact hi,rfl⟩,hm.anc.2⟩
      ·intro i o hi
       obtain⟨r,oi,h1,h2,h3,rfl⟩:=hget i o hi
       obtain⟨h4,h5,h6⟩:=hnames i r h1
       refine⟨h5,?_⟩
       rw[h6]
       refine(hm.ok r oi h2).2.map (g:=g) (g':=gc) rfl rfl fun x hx hu=>hix x (hsub2 x (z5f (Qo6 h1) h3 hx)) hu
      ·intro i i' o o' b hi hi' hbk hbk'
       obtain⟨r,oi,h1,h2,_⟩:=hget i o hi
       obtain⟨r',oi',h1',h2',_⟩:=hget i' o' hi'
       rw[(hnames i r h1).2.2]at hbk
       rw[(hnames i' r' h1').2.2]at hbk'
       have:=hm.sep r r' _ _ b h2 h2' hbk hbk'
       subst this
       obtain⟨q1,q2⟩:=List.getElem?_eq_some_iff.1 h1
       obtain⟨q1',q2'⟩:=List.getElem?_eq_some_iff.1 h1'
       have hpw:=List.pairwise_iff_getElem.1 hnd
       rcases Nat.lt_trichotomy i i' with hlt|rfl|hlt
       ·exact absurd (q2.trans q2'.symm) (hpw i i' q1 q1' hlt)
       ·rfl
       ·exact absurd (q2'.trans q2.symm) (hpw i' i q1' q1 hlt)
      ·intro i o b hi hbk
       obtain⟨r,oi,h1,h2,_⟩:=hget i o hi
       have hbk2:=hbk
       rw[(hnames i r h1).2.2]at hbk2
       refine⟨(hm.own r oi b h2 hbk2).1,.inr ⟨i,?_,hbk⟩⟩
       rw[hcos]
       exact(List.getElem?_eq_some_iff.1 h1).1
     refine Calls.mono (hs.2 gc _ _ args.toList p r outs hσ hp' hmc (fun i hi=>by rw[hcos];exact hi) (hin.map (g:=g) (g':=gc) rfl rfl _ _ fun x hx hu=>hix x (hsub1 x hx) hu)) fun e W' he=>?_
     obtain⟨u,gc',hε,hW',hlec,hmo,hd⟩:=he
     refine⟨u,hε,?_⟩
     let g':Gh:=⟨W',gc'.G,fun x=>if g.U x then g.β x else gc'.β (names.length+(x-nm)/1000),fun x=>g.U x∨q1i nm x=true⟩
     have hback:∀i,gc'.U i→g'.U (q3f names nm i)∧g'.β (q3f names nm i)=gc'.β i:=fun i _=>y1l hn hnames hlec i
     have hle:g.le g':=⟨fun b hb=>by have:=hlec.keep b hb;rw[hW']at this;exact this,hlec.grow,fun x hx=>⟨.inl hx,if_pos hx⟩⟩
     have hlook:∀x o,q2e H (q8o (q3f names nm) 0 outs) x=some o→(∃i oi,q3s outs i=some oi∧x=q3f names nm i∧o=y3g (q3f names nm) oi)∨(x∉names∧H x=some o):=by
      intro x o hx
      rcases q6i hx with h1|⟨h1,h2⟩
      ·obtain⟨i,oi,q1,q2,q3⟩:=z1i h1
       refine .inl ⟨i,oi,?_,by rw[q2,Qg7],q3⟩
       unfold q3s
       rw[q1]
      ·refine .inr ⟨fun hmem=>h1 ?_,h2⟩
       obtain⟨i,hi,rfl⟩:=List.getElem_of_mem hmem
       have:=z4u (f:=q3f names nm) (outs:=outs) (k:=0) (i:=i) (by omega)
       rw[Qg7]at this
       have hb:q3f names nm i=names[i]:=by unfold q3f;rw[Qa0 hi]
       rwa [hb]at this
     have hout:∀i oi b,q3s outs i=some oi→q1k (gc'.β i)=some b→¬gc'.G b∧(g.W.heap.size≤b∨∃r o,r∈names∧H r=some o∧q1k (g.β r)=some b):=by
      intro i oi b hi hbk
      obtain⟨h1,h2⟩:=hmo.own i oi b hi hbk
      exact⟨h1,h2.imp id (hlent b)⟩
     have hGb:∀b,gc'.G b→b<W'.heap.size∧(g.G b∨g.W.heap.size≤b∨∃r o,r∈names∧H r=some o∧q1k (g.β r)=some b):=by
      intro b hb
      obtain⟨h1,h2⟩:=hmo.gb b hb
      rw[hW']at h1
      exact⟨h1,h2.imp id fun h=>h.imp id (hlent b)⟩
     have hkeep:∀b,b<g.W.heap.size→(¬∃r o,r∈names∧H r=some o∧q1k (g.β r)=some b)→W'.heap[b]? =g.W.heap[b]? :=by
      intro b hb hno
      have:=hmo.bel.block b hb (fun hl=>hno (hlent b hl))
      rw[hW']at this
      exact this
     have hmine:∀b,g.W.heap.size≤b→w0.mine b:=fun b hb=>.inl (Qc0 hm.bel.size hb)
     refine⟨g',rfl,hle,fun _=>Iff.rfl,⟨?_,?_,?_,?_,?_,hm.anc_up hle⟩,Den.map (g:=gc') (g':=g') hW'.symm rfl _ _ (fun i _ hu=>hback i hu) hd⟩
     ·intro x o hx
      rcases hlook x o hx with⟨i,oi,h1,rfl,rfl⟩|⟨h1,h2⟩
      ·obtain⟨q1,q2⟩:=hmo.ok i oi h1
       obtain⟨q3,q4⟩:=hback i q1
       refine⟨q3,?_⟩
       rw[q4]
       exact q2.map (g:=gc') (g':=g') hW'.symm rfl fun j _ hu=>hback j hu
      ·obtain⟨q1,q2⟩:=hm.ok x o h2
       refine⟨.inl q1,?_⟩
       rw[(hle.name x q1).2]
       refine q2.up hle fun b hb=>hkeep b (q2.lt hb) ?_
       rintro⟨r,o',k1,k2,k3⟩
       exact h1 (by rw[hm.sep x r o o' b h2 k2 hb k3];exact k1)
     ·intro x x' o o' b hx hx' hbk hbk'
      rcases hlook x o hx with⟨i,oi,h1,rfl,rfl⟩|⟨h1,h2⟩<;>rcases hlook x' o' hx' with⟨i',oi',h1',rfl,rfl⟩|⟨h1',h2'⟩
      ·rw[(hback i (hmo.ok i oi h1).1).2]at hbk
       rw[(hback i' (hmo.ok i' oi' h1').1).2]at hbk'
       rw[hmo.sep i i' oi oi' b h1 h1' hbk hbk']
      ·rw[(hback i (hmo.ok i oi h1).1).2]at hbk
       rw[(hle.name x' (hm.ok x' o' h2').1).2]at hbk'
       rcases(hout i oi b h1 hbk).2 with k|⟨r,o2,k1,k2,k3⟩
       ·have:=(hm.ok x' o' h2').2.lt hbk';omega
       ·exact absurd k1 (by rw[hm.sep r x' o2 o' b k2 h2' k3 hbk'];exact h1')
      ·rw[(hback i' (hmo.ok i' oi' h1').1).2]at hbk'
       rw[(hle.name x (hm.ok x o h2).1).2]at hbk
       rcases(hout i' oi' b h1' hbk').2 with k|⟨r,o2,k1,k2,k3⟩
       ·have:=(hm.ok x o h2).2.lt hbk;omega
       ·exact absurd k1 (by rw[hm.sep r x o2 o b k2 h2 k3 hbk];exact h1)
      ·rw[(hle.name x (hm.ok x o h2).1).2]at hbk
       rw[(hle.name x' (hm.ok x' o' h2').1).2]at hbk'
       exact hm.sep x x' o o' b h2 h2' hbk hbk'
     ·intro x o b hx hbk
      rcases hlook x o hx with⟨i,oi,h1,rfl,rfl⟩|⟨h1,h2⟩
      ·rw[(hback i (hmo.ok i oi h1).1).2]at hbk
       obtain⟨q1,q2⟩:=hout i oi b h1 hbk
       refine⟨q1,?_⟩
       rcases q2 with k|⟨r,o2,k1,k2,k3⟩
       ·exact hmine b k
       ·exact(hm.own r o2 b k2 k3).2
      ·rw[(hle.name x (hm.ok x o h2).1).2]at hbk
       refine⟨fun hG=>?_,(hm.own x o b h2 hbk).2⟩
       rcases(hGb b hG).2 with k|k|⟨r,o2,k1,k2,k3⟩
       ·exact(hm.own x o b h2 hbk).1 k
       ·have:=(hm.ok x o h2).2.lt hbk;omega
       ·exact h1 (by rw[hm.sep x r o o2 b h2 k2 hbk k3];exact k1)
     ·intro b hb
      obtain⟨q1,q2⟩:=hGb b hb
      refine⟨q1,?_⟩
      rcases q2 with k|k|⟨r,o2,k1,k2,k3⟩
      ·exact(hm.gb b k).2
      ·exact .inr (hmine b k)
      ·exact .inr (hm.own r o2 b k2 k3).2
     ·refine⟨?_,?_,?_,?_,?_⟩
      ·have:=hmo.bel.os;rw[hW']at this;exact this.trans hm.bel.os
      ·have:=hmo.bel.tape;rw[hW']at this;exact this.trans hm.bel.tape
      ·have:=hmo.bel.output;rw[hW']at this;exact this.trans hm.bel.output
      ·have:=hmo.bel.size;rw[hW']at this;exact Qc0 hm.bel.size this
      ·intro k hk hO
       refine(hkeep k (Qc2 hk hm.bel.size) ?_).trans (hm.bel.block k hk hO)
       rintro⟨r,o2,k1,k2,k3⟩
       rcases(hm.own r o2 k k2 k3).2 with h|h
       ·omega
       ·exact hO h
   ·cases hc
 ·cases hc
theorem y0d {σ:CtF} {f:Nat} {all:List AV} {args:Array Value} {hs':List (Nat×Option q0d)} (hs:q0c P f σ) (hhp:∀r o,hp r=some o→H r=some o) (hm:MOk w0 G0 g H) (hn:∀r,q1i nm r=true→¬g.U r) (hin:q0e g all args.toList)
 (hc:j1q σ nm hp all=some (ps,v,hs')) (hps:q3n ps):Calls P f args g.W (fun e W'=>∃u,e=.returned u∧x4i w0 G0 g nm (q2e H hs') v u W'):=y1d (ε:=fun e u=>e=.returned u) hs hhp hm hn hin hc hps
theorem j7y {σ:CtF} {f:Nat} {all:List AV} {args:Array Value} {hs':List (Nat×Option q0d)} (hs:q0c P f σ) (hhp:∀r o,hp r=some o→H r=some o) (hm:MOk w0 G0 g H) (hn:∀r,q1i nm r=true→¬g.U r) (hin:q0e g all args.toList)
 (hc:x0o σ nm hp all=some (ps,v,hs')) (hps:q3n ps):Calls P f args g.W (fun e W'=>∃u,e=.returned u∧x4i w0 G0 g nm (q2e H hs') v u W'):=by
 classical
 unfold x0o at hc
 cases hb:z3g (k4g hp all)with
 |false=>rw[hb]at hc;cases hc
 |true=>
  rw[hb]at hc
  simp only[cond_true]at hc
  split at hc
  ·rename_i p r outs hσ
   cases hbs:(r.scalar&&outs.all q0d.scalar)with
   |false=>rw[hbs]at hc;cases hc
   |true=>
    rw[hbs]at hc
    simp only[cond_true,Option.some.injEq,Prod.mk.injEq]at hc
    obtain⟨rfl,rfl,rfl⟩:=hc
    simp only[Qa2]at hbs
    have hp':p:=hps
    let gc:Gh:=⟨g.W,fun b=>g.G b∨∃r o,H r=some o∧q1k (g.β r)=some b,fun _=>undef,fun _=>False⟩
    have hnl:∀b,¬q5p gc [] b:=by rintro b ⟨i,hi,_⟩;simp at hi
    have hmc:MOk ⟨g.W,q5p gc [],([]:List q0d).length,gc.β,[]⟩ gc.G gc (q8e []):=by
     refine⟨fun r o h=>by simp[q8e]at h,fun r r' o o' b h=>by simp[q8e]at h,fun r o b h=>by simp[q8e]at h,fun b hb=>⟨?_,.inl hb⟩,Kp.refl _ _,fun i hi=>by simp at hi,fun k xs hk=>⟨.inl (hm.anc.2 k xs hk).1,(hm.anc.2 k xs hk).2⟩⟩
     rcases hb with hb|⟨r,o,hr,hb⟩
     ·exact(hm.gb b hb).1
     ·exact(hm.ok r o hr).2.lt hb
    have hin2:q0e gc (k4g hp all) args.toList:=q0e.pure (g:=⟨g.W,fun b=>g.G b∨∃r o,H r=some o∧q1k (g.β r)=some b,g.β,g.U⟩) (g':=gc) rfl rfl _ _ hb (z6f hhp hm all args.toList hin)
    refine Calls.mono (hs.2 gc _ _ args.toList p r outs hσ hp' hmc (fun i hi=>False.elim hi) hin2) fun e W' he=>?_
    obtain⟨u,gc',rfl,hW',hlec,hmo,hd⟩:=he
    refine⟨u,rfl,?_⟩
    let g':Gh:=⟨W',g.G,fun x=>if g.U x then g.β x else gc'.β (([]:List Nat).length+(x-nm)/1000),fun x=>g.U x∨q1i nm x=true⟩
    have hback:∀i,gc'.U i→g'.U (q3f [] nm i)∧g'.β (q3f [] nm i)=gc'.β i:=fun i _=>y1l (names:=[]) (gc:=gc) hn (fun i r h=>by simp at h) hlec i
    have hkeep:∀b,b<g.W.heap.size→W'.heap[b]? =g.W.heap[b]? :=by
     intro b hb
     have:=hmo.bel.block b hb (hnl b)
     rw[hW']at this
     exact this
    have hle:g.le g':=⟨fun b hb=>hkeep b (hm.gb b hb).1,fun _ h=>h,fun x hx=>⟨.inl hx,if_pos hx⟩⟩
    have hlook:∀x o,q2e H (q8o (q3f [] nm) 0 outs) x=some o→(∃i oi,q3s outs i=some oi∧x=q3f [] nm i∧o=y3g (q3f [] nm) oi)∨H x=some o:=by
     intro x o hx
     rcases q6i hx with h1|⟨h1,h2⟩
     ·obtain⟨i,oi,q1,q2,q3⟩:=z1i h1
      refine .inl ⟨i,oi,?_,by rw[q2,Qg7],q3⟩
      unfold q3s
      rw[q1]
     ·exact .inr h2
    have hout:∀i oi b,q3s outs i=some oi→q1k (gc'.β i)=some b→g.W.heap.size≤b:=by
     intro i oi b hi hbk
     rcases(hmo.own i oi b hi hbk).2 with h|h
     ·exact h
     ·exact absurd h (hnl b)
    refine⟨g',rfl,hle,fun _=>Iff.rfl,⟨?_,?_,?_,?_,?_,hm.anc_up hle⟩,Den.scalarMap (g:=gc') (g':=g') hback r u hbs.1 hd⟩
    ·intro x o hx
     rcases hlook x o hx with⟨i,oi,h1,rfl,rfl⟩|h2
     ·obtain⟨q1,q2⟩:=hmo.ok i oi h1
      obtain⟨q3,q4⟩:=hback i q1
      refine⟨q3,?_⟩
      rw[q4]
      have hsc:q0d.scalar (some oi)=true:=by
       unfold q3s at h1
       split at h1
       ·rename_i y hy
        cases h1
        exact(List.all_eq_true.1 hbs.2) _ (Qo6 hy)
       ·cases h1
      cases oi with
      |box cs=>simp[q0d.scalar]at hsc
      |other b o=>simp[q0d.scalar]at hsc
      |mset ks=>simp[q0d.scalar]at hsc
      |mfun ks cs=>simp[q0d.scalar]at hsc
      |row e l=>
       obtain⟨xs,ho,k2,k4⟩:=q2
       exact⟨xs,by rw[hW']at ho;exact ho,k2,fun a b ha hb=>k4i hsc (k4 a b ha hb)⟩
     ·obtain⟨q1,q2⟩:=hm.ok x o h2
      refine⟨.inl q1,?_⟩
      rw[(hle.name x q1).2]
      exact q2.up hle fun b hb=>hkeep b (q2.lt hb)
    ·intro x x' o o' b hx hx' hbk hbk'
     rcases hlook x o hx with⟨i,oi,h1,rfl,rfl⟩|h2<;>rcases hlook x' o' hx' with⟨i',oi',h1',rfl,rfl⟩|h2'
     ·rw[(hback i (hmo.ok i oi h1).1).2]at hbk
      rw[(hback i' (hmo.ok i' oi' h1').1).2]at hbk'
      rw[hmo.sep i i' oi oi' b h1 h1' hbk hbk']
     ·rw[(hback i (hmo.ok i oi h1).1).2]at hbk
      rw[(hle.name x' (hm.ok x' o' h2').1).2]at hbk'
      have:=hout i oi b h1 hbk
      have:=(hm.ok x' o' h2').2.lt hbk'
      omega
     ·rw[(hback i' (hmo.ok i' oi' h1').1).2]at hbk'
      rw[(hle.name x (hm.ok x o h2).1).2]at hbk
      have:=hout i' oi' b h1' hbk'
      have:=(hm.ok x o h2).2.lt hbk
      omega
     ·rw[(hle.name x (hm.ok x o h2).1).2]at hbk
      rw[(hle.name x' (hm.ok x' o' h2').1).2]at hbk'
      exact hm.sep x x' o o' b h2 h2' hbk hbk'
    ·intro x o b hx hbk
     rcases hlook x o hx with⟨i,oi,h1,rfl,rfl⟩|h2
     ·rw[(hback i (hmo.ok i oi h1).1).2]at hbk
      have:=hout i oi b h1 hbk
      exact⟨fun hG=>by have:=(hm.gb b hG).1;omega,.inl (Qc0 hm.bel.size this)⟩
     ·rw[(hle.name x (hm.ok x o h2).1).2]at hbk
      exact hm.own x o b h2 hbk
    ·intro b hb
     have hsz:=hmo.bel.size
     rw[hW']at hsz
     exact⟨Qc2 (hm.gb b hb).1 hsz,(hm.gb b hb).2⟩
    ·refine⟨?_,?_,?_,?_,?_⟩
     ·have:=hmo.bel.os;rw[hW']at this;exact this.trans hm.bel.os
     ·have:=hmo.bel.tape;rw[hW']at this;exact this.trans hm.bel.tape
     ·have:=hmo.bel.output;rw[hW']at this;exact this.trans hm.bel.output
     ·have:=hmo.bel.size;rw[hW']at this;exact Qc0 hm.bel.size this
     ·intro k hk hO
      exact(hkeep k (Qc2 hk hm.bel.size)).trans (hm.bel.block k hk hO)
  ·cases hc
theorem k8v (hcx:q1c P cx) (hhp:∀r o,hp r=some o→H r=some o) (hm:MOk w0 G0 g H) (hn:∀r,q1i nm r=true→¬g.U r) (hin:q0e g ins vs) (hc:u4c cx nm hp ins=some (ps,v,hs)) (hps:q3n ps) {c:Call} {x:Operand} (hop:o.op=.call c) (hb:c.callee=.value x) (hv:ρ x::c.args.toList.map ρ=vs):
 Eff P ρ o g.W (x4i w0 G0 g nm (q2e H hs) v):=by
 unfold u4c at hc
 split at hc
 ·rename_i f caps args
  simp only[q0e]at hin
  obtain⟨u,us,e,hf,hl⟩:=hin
  rw[←hv]at e
  simp only[List.cons.injEq]at e
  obtain⟨e1,e2⟩:=e
  simp only[Den]at hf
  obtain⟨ks,hx,hk⟩:=hf
  rw[←e1]at hx
  subst e2
  cases hlt:Nat.blt f bndK with
  |true=>
   rw[hlt]at hc
   rw[z1u hlt]at hx
   simp only[cond_true]at hc
   split at hc
   ·rename_i σ hσ
    have hso:=hcx.fn f σ hσ
    have hrun:(execOp ρ o).run P g.W=.ok (.enter f (c.args.toList.map ρ++ks).toArray) g.W:=by
     simp[execOp,hop,resolve,hb,hx,Deferred.ofValue,invoke,hso.1]
    unfold Eff
    rw[hrun]
    simp only
    have hall:q0e g (args++caps) (c.args.toList.map ρ++ks).toArray.toList:=by simpa using hl.append hk
    split at hc
    ·rename_i y hy
     cases hc
     exact y0d hso hhp hm hn hall hy hps
    ·exact j7y hso hhp hm hn hall hc hps
   ·cases hc
  |false=>
   rw[hlt]at hc
   rw[k9i hlt]at hx
   simp only[cond_false]at hc
   split at hc
   ·rename_i σ hσ
    have hso:=hcx.fn (f-bndK) σ hσ
    have hrun:(execOp ρ o).run P g.W=.ok (.enter (f-bndK) (ks++c.args.toList.map ρ).toArray) g.W:=by
     simp[execOp,hop,resolve,hb,hx,Deferred.ofValue,invoke,hso.1]
    unfold Eff
    rw[hrun]
    simp only
    have hall:q0e g (caps++args) (ks++c.args.toList.map ρ).toArray.toList:=by simpa using hk.append hl
    split at hc
    ·rename_i y hy
     cases hc
     exact y0d hso hhp hm hn hall hy hps
    ·exact j7y hso hhp hm hn hall hc hps
   ·cases hc
 ·cases hc
end
end
end Go.Proofs.YteikjpbbhopkaaaGreatDoor.En
namespace Go.Proofs.YteikjpbbhopkaaaGreatDoor.En
section
open Go Go.RowKit
section
variable {P:Program} {cx:Cx} {w0:Base} {G0:Nat→Prop} {g:Gh} {H hp:Nat→Option q0d} {nm:Nat}
 {ins:List AV} {vs:List Value} {ρ:Operand→Value} {o:Oper} {ps:List Prop} {v:AV} {hs:List (Nat×Option q0d)}
theorem x1s (hcx:q1c P cx) {t e by_ k:Nat} (h:k8l cx t=some (e,by_,k)):P.underlying t=some (.slice e)∧∃ed,look e cx.ty=some ed∧z4y P e ed∧ed.size=1∧0<by_∧ed.bytes=by_∧ed.zero.length=1:=by
 unfold k8l at h
 split at h
 ·rename_i td ht
  split at h
  ·rename_i e' he
   split at h
   ·rename_i ed hed
    cases hb:(Nat.beq ed.size 1&&Nat.blt 0 ed.bytes&&Nat.beq ed.zero.length 1)with
    |false=>rw[hb]at h;cases h
    |true=>
     rw[hb]at h
     simp only[cond_true,Option.some.injEq,Prod.mk.injEq]at h
     obtain⟨rfl,rfl,_⟩:=h
     simp only[Qa2]at hb
     exact⟨(hcx.ty t td ht).slice he,ed,hed,hcx.ty _ _ hed,Qb0 hb.1.1,by simpa using hb.1.2,rfl,Qb0 hb.2⟩
   ·cases h
  ·cases h
 ·cases h
theorem z6c (hcx:q1c P cx) {t e sz by_ k:Nat} (h:x3k cx t=some (e,sz,by_,k)):P.underlying t=some (.slice e)∧∃ed,look e cx.ty=some ed∧z4y P e ed∧ed.size=sz∧0<sz∧0<by_∧ed.bytes=by_∧ed.zero.length=sz:=by
 unfold x3k at h
 split at h
 ·rename_i td ht
  split at h
  ·rename_i e' he
   split at h
   ·rename_i ed hed
    cases hb:(Nat.blt 0 ed.size&&Nat.blt 0 ed.bytes&&Nat.beq ed.zero.length ed.size)with
    |false=>rw[hb]at h;cases h
    |true=>
     rw[hb]at h
     simp only[cond_true,Option.some.injEq,Prod.mk.injEq]at h
     obtain⟨rfl,rfl,rfl,_⟩:=h
     simp only[Qa2]at hb
     exact⟨(hcx.ty t td ht).slice he,ed,hed,hcx.ty _ _ hed,rfl,by simpa using hb.1.1,by simpa using hb.1.2,rfl,Qb0 hb.2⟩
   ·cases h
  ·cases h
 ·cases h
theorem x6a {i j n st:Nat} (hi:i<n) (hj:j<st):i*st+j<n*st:=
 calc i*st+j<i*st+st:=by omega
  _=(i+1)*st:=by rw[Qk5,Qq7]
  _≤n*st:=Qk1 _ hi
theorem u4r {i j st:Nat} (hj:j<st):(i*st+j)/st=i∧(i*st+j)%st=j:=by
 have hp:0<st:=by omega
 refine⟨?_,?_⟩
 ·rw[Nat.add_comm,Nat.add_mul_div_right _ _ hp,Nat.div_eq_of_lt hj,Qg7]
 ·rw[Nat.add_comm,Nat.add_mul_mod_self_right,Qo3 hj]
theorem u0o (hhp:∀r o,hp r=some o→H r=some o) (hm:MOk w0 G0 g H) {r:Nat} {x:AV} {l:LD} (hs:k7f hp r x=some l) (hst:0<l.st) {u:Value} (hd:Den g x u):
 ∃A c news,u=.slice A l.len c∧news.length=l.len*l.st∧l.len≤maxLen∧x5d g.W A news∧∀i j,i<l.len→j<l.st→Rep g.W g.G (l.cell i j) (news.getD (i*l.st+j) undef):=by
 unfold k7f at hs
 split at hs
 ·cases hs
  simp only[Den]at hd
  have hmx:=hd.lenMax
  rcases hd.cases_ls with⟨h0,A,c,rfl⟩|⟨b,off,c,w,rfl,h1,h2,h3,h4,h5⟩
  ·refine⟨A,c,[],by rw[h0],by rw[h0];simp,hmx,?_,fun i j hi _=>by omega⟩
   cases A with
   |none=>exact .inl ⟨rfl,rfl⟩
   |some a=>exact .inr ⟨a,rfl,fun j u hj=>by simp at hj⟩
  ·refine⟨_,c,(List.range (l.len*l.st)).map fun k=>w (k/l.st) (k%l.st),rfl,by simp,h2,.inr ⟨_,rfl,fun k u hj=>?_⟩,fun i j hi hj=>?_⟩
   ·simp only[Qg6,Qj3]at hj
    obtain⟨i,hi,rfl⟩:=hj
    obtain⟨hlt,hij⟩:=List.getElem?_eq_some_iff.1 hi
    rw[Ql3]at hij
    subst hij
    rw[Qg4]at hlt
    have hq:k/l.st<l.len:=Nat.div_lt_of_lt_mul (by rw[Qk3];exact hlt)
    have:=h4 (k/l.st) (k%l.st) hq (Nat.mod_lt _ hst)
    rw[q5c]
    rw[Qg5,Qk3,Nat.div_add_mod]at this
    exact this
   ·have hlt:=x6a hi hj
    have:((List.range (l.len*l.st)).map fun k=>w (k/l.st) (k%l.st)).getD (i*l.st+j) undef=w i j:=by
     simp[List.getD,hlt,(u4r (i:=i) hj).1,Qo3 hj]
    rw[this]
    exact h5 i j hi hj
 ·rename_i k
  cases hk:Nat.beq k r with
  |true=>rw[hk]at hs;cases hs
  |false=>
   rw[hk]at hs
   simp only[cond_false]at hs
   split at hs
   ·rename_i e l' hl
    cases hs
    simp only[Den]at hd
    obtain⟨_,rfl,_⟩:=hd
    obtain⟨_,xs,ho,h2,h4⟩:=hm.ok k _ (hhp k _ hl)
    have hlen:=ho.len
    rcases ho.cells with⟨hv,hn⟩|⟨b,off,cap,hv,h5,h6⟩
    ·refine⟨none,0,xs,by rw[hv,hn],hlen,h2,.inl ⟨?_,rfl⟩,h4⟩
     rw[hn,Nat.zero_mul]at hlen
     exact Qc8 hlen
    ·refine⟨_,cap,xs,hv,hlen,h2,.inr ⟨_,rfl,fun j u hj=>?_⟩,h4⟩
     obtain⟨hlt,rfl⟩:=List.getElem?_eq_some_iff.1 hj
     rw[q5c]
     exact h6 j hlt
   ·cases hs
 ·cases hs
theorem q8c {t ty e:TypeId} (W:World) (i:TypeInfo) (ht:P.underlying t=some (.slice e)) (hi:P.info? e=some i) {st n:Nat} {v:Value} {xs:List Value} (hown:q5a W e st v n xs) (c:Nat):
 (Builtin.append_ #[t,t] ty #[v,.slice none 0 c]).run P W=.ok v W:=by
 unfold q5a at hown
 split at hown
 ·exact q9j W t ty e i ht hi v xs hown.1 c
 ·rcases hown.2.2 with⟨rfl,rfl⟩|⟨g,cap,cur,rfl,_,hg,hnc,hcm,hfit,hcs⟩
  ·simp[Builtin.append_,run_underlying ht,sizeOf,typeInfo,hi,(Src.ofNil (P:=P) W (size:=i.size) ht c).len,(Src.ofNil (P:=P) W (size:=i.size) ht c).cells]
  ·have:=run_append_room_src (P:=P) W t t ty e i ht hi g 0 n cap (.slice none 0 c) 0 [] (Src.ofNil W ht c) (by omega) (by simp) (by simp)
   rw[this]
   rfl
theorem z9j {t ty e:TypeId} {ed:TD} (ht:P.underlying t=some (.slice e)) (hed:z4y P e ed) {st:Nat} (h1:ed.size=st) (hz:ed.zero.length=st) (hb0:0<ed.bytes) (W:World) {v:Value} {n:Nat} {xs:List Value} (hown:q5a W e st v n xs) {A:Option Addr} {c m:Nat}
 {news:List Value} (hl:news.length=m*st) (hsrc:x5d W A news) (ho:∀u∈news,u.oneCell'=true) (hbytes:(n+m)*ed.bytes≤140737488355328):
 ∃v' W',(Builtin.append_ #[t,t] ty #[v,.slice A m c]).run P W=.ok v' W'∧q5a W' e st v' (n+m) (xs++news)∧W.grownBy W' v.ownBlock∧∀b,v'.ownBlock=some b→v.ownBlock=some b∨b=W.heap.size:=by
 obtain⟨i,z,hi,hs,hz',hzc,hby⟩:=hed.info
 have hpos:=hown.pos
 have h63:n+m≤maxLen:=by
  have:n+m≤(n+m)*ed.bytes:=Qh2 _ hb0
  unfold maxLen
  omega
 rcases hsrc with⟨rfl,rfl⟩|⟨ad,rfl,hc⟩
 ·have hm0:m=0:=by
   rcases Qj7 m with h|h
   ·exact h
   ·exact absurd hl (by have:=Nat.mul_pos h hpos;simp;omega)
  subst hm0
  refine⟨v,W,q8c W i ht hi hown c,by simpa using hown,⟨rfl,rfl,rfl,Qb8 _,fun _ _ _=>rfl⟩,fun b hb=>.inl hb⟩
 ·unfold q5a at hown
  split at hown
  ·rename_i hs1
   rw[hs1,Qf6]at hl
   subst hl
   obtain⟨v',W',hr,h2,h3,h4,_⟩:=q6e (P:=P) W t ty e i z ed.bytes ht hi hz' (by rw[hs,h1,hs1]) hby (by rw[←Qf0,hzc,hz,hs1]) v xs hown.1 ad news.length c news rfl hc ho (by rw[hown.2];exact h63) (by rw[hown.2];exact hbytes)
   refine⟨v',W',hr,?_,h3,fun b hb=>?_⟩
   ·rw[hs1];exact .of_one h2 (by rw[Qa3,hown.2])
   ·rcases h4 with h4|h4
    ·left;rw[←h4];exact hb
    ·right;rw[hb]at h4;injection h4
  ·rename_i hs1
   obtain⟨v',W',hr,h2,h3,_,h4⟩:=run_append_own_at (P:=P) W 0 t ty e i z st ed.bytes ht hi hz' (by rw[hs,h1]) hby (by rw[←Qf0,hzc,hz]) hpos v n xs hown.2 ad m c news hl hc ho h63 hbytes (Qc1 _)
   refine⟨v',W',hr,?_,h3,fun b hb=>?_⟩
   ·unfold q5a;rw[if_neg hs1];exact⟨hpos,h2⟩
   ·rcases h4 with h4|h4
    ·left;rw[←h4];exact hb
    ·right;rw[hb]at h4;injection h4
theorem x1g {l:LD} {news:List Value} {W:World} {G:Nat→Prop} (hl:news.length=l.len*l.st) (hst:0<l.st) (h:∀i j,i<l.len→j<l.st→Rep W G (l.cell i j) (news.getD (i*l.st+j) undef)):∀u∈news,u.oneCell'=true:=by
 intro u hu
 obtain⟨k,hk,rfl⟩:=List.mem_iff_getElem.1 hu
 have hq:k/l.st<l.len:=Nat.div_lt_of_lt_mul (by rw[Qk3,←hl];exact hk)
 have:=h (k/l.st) (k%l.st) hq (Nat.mod_lt _ hst)
 rw[Qk3,Nat.div_add_mod]at this
 have hg:news.getD k undef=news[k]:=by simp[List.getD,Qa0 hk]
 rw[hg]at this
 exact j7d this
theorem x2u (hcx:q1c P cx) (hhp:∀r o,hp r=some o→H r=some o) (hm:MOk w0 G0 g H) (hn:¬g.U nm) (hin:q0e g ins vs) {t:Nat} (hc:j4f cx nm t hp ins=some (ps,v,hs)) (hps:q3n ps)
 {c:Call} {x y:Operand} (hop:o.op=.call c) (hb:c.callee=.builtin .append) (ht:c.argTypes= #[t,t]) (ha:c.args= #[x,y]) (hv:[ρ x,ρ y]=vs):Eff P ρ o g.W (Good w0 G0 g nm (q2e H hs) v):=by
 have hrun:∀v' W',(Builtin.append_ #[t,t] o.type #[ρ x,ρ y]).run P g.W=.ok v' W'→(execOp ρ o).run P g.W=.ok (.value v') W':=by
  intro v' W' h
  simp[execOp,hop,resolve,hb,ht,ha,invoke,builtin,h,Result.andThen]
 unfold j4f at hc
 split at hc
 ·rename_i r
  split at hc
  ·rename_i e sz by_ k e' l he hr
   cases hbe:(Nat.beq e e'&&Nat.beq l.st sz)with
   |false=>rw[hbe]at hc;cases hc
   |true=>
    rw[hbe]at hc
    simp only[cond_true,Option.some.injEq,Prod.mk.injEq]at hc
    obtain⟨rfl,rfl,rfl⟩:=hc
    simp only[Qa2]at hbe
    have:=Qb0 hbe.1
    subst this
    have hst:=Qb0 hbe.2
    obtain⟨hu,ed,_,hed,hsz,_⟩:=z6c hcx he
    obtain⟨i,z,hi,his,_⟩:=hed.info
    obtain⟨u,u',e1,hd,hd'⟩:=q4u hin
    rw[←hv]at e1
    cases e1
    simp only[Den]at hd
    obtain⟨hU,hx,_⟩:=hd
    have hy:=q0b hd'
    have hH:=hhp r _ hr
    obtain⟨_,xs,ho,h2,h4⟩:=hm.ok r _ hH
    have hne:r≠nm:=fun e=>hn (e▸hU)
    refine .of_run (hrun (g.β r) g.W ?_) (good_row (ob:=q1k (g.β r)) hm hn ⟨rfl,rfl,rfl,Qb8 _,fun _ _ _=>rfl⟩ (fun b hb=>hm.own r _ b hH hb) (fun a ob hx'=>?_) ho h2 h4 (fun b hb=>.inl hb))
    ·rw[hx,hy]
     exact q8c g.W i hu hi ho 0
    ·rcases u4y hx' with h|⟨ha1,ha2,ha3⟩
     ·exact .inl h
     ·exact .inr ⟨ha1,ha3,fun b hb hb'=>ha2 (hm.sep a r _ _ b ha3 hH hb' hb)⟩
  ·cases hc
 ·rename_i r z _
  split at hc
  ·rename_i e sz by_ k e' l l2 he hr hsrc
   split at hc
   ·rename_i l3 happ
    cases hbe:(Nat.beq e e'&&Nat.beq l2.st sz)with
    |false=>rw[hbe]at hc;cases hc
    |true=>
     rw[hbe]at hc
     simp only[cond_true,Option.some.injEq,Prod.mk.injEq]at hc
     obtain⟨rfl,rfl,rfl⟩:=hc
     simp only[Qa2]at hbe
     have:=Qb0 hbe.1
     subst this
     obtain⟨hu,ed,_,hed,hsz,hs0,hb0,hby,hz⟩:=z6c hcx he
     obtain⟨u,u',e1,hd,hd'⟩:=q4u hin
     rw[←hv]at e1
     cases e1
     simp only[Den]at hd
     obtain⟨hU,hx,_⟩:=hd
     have hH:=hhp r _ hr
     obtain⟨_,xs,ho,h2,h4⟩:=hm.ok r _ hH
     have hst2:=Qb0 hbe.2
     obtain⟨A,c',news,hy,hn1,hn2,hn3,hn4⟩:=u0o hhp hm hsrc (by omega) hd'
     obtain⟨a1,a2,a2',a3,a4⟩:=j5o happ
     have hpb:(l.len+l2.len)*by_≤140737488355328:=hps
     have hone:=x1g hn1 (by omega) hn4
     have hxl:=ho.len
     obtain⟨v',W',hr',o1,o2,o3⟩:=z9j (P:=P) (ty:=o.type) (c:=c') (m:=l2.len) hu hed (st:=l.st) (by omega) (by omega) (by omega) g.W ho (by rw[hn1,a2']) hn3 hone (by rw[hby];exact hpb)
     rw[←ho.blk]at o2
     refine .of_run (hrun v' W' ?_) (good_row (ob:=q1k (g.β r)) (xs:=xs++news) hm hn o2 (fun b hb=>hm.own r _ b hH hb) (fun a ob hx'=>?_) (by rw[a2,a1];exact o1) ?_ (fun i j hi hj=>?_) (fun b hb=>?_))
     ·rw[hx,hy];exact hr'
     ·rcases u4y hx' with h|⟨ha1,ha2,ha3⟩
      ·exact .inl h
      ·exact .inr ⟨ha1,ha3,fun b hb hb'=>ha2 (hm.sep a r _ _ b ha3 hH hb' hb)⟩
     ·rw[a1]
      have:l.len+l2.len≤(l.len+l2.len)*by_:=Qh2 _ hb0
      unfold maxLen
      omega
     ·rw[a1]at hi
      rw[a2]at hj⊢
      by_cases hlt:i<l.len
      ·rw[a3 i j hlt,q3p _ _ _ _ (by rw[hxl];exact x6a hlt hj)]
       exact h4 i j hlt hj
      ·obtain⟨k,rfl⟩:∃k,i=l.len+k:=⟨i-l.len,by omega⟩
       rw[a4 k j,Qk5,Qg5,←hxl,q3m,←a2']
       exact hn4 k j (by omega) (by omega)
     ·rw[o1.blk]at hb
      rw[ho.blk]
      exact o3 b hb
   ·cases hc
  ·cases hc
 ·rename_i z _
  split at hc
  ·rename_i e sz by_ k l2 he hsrc
   cases hbe:Nat.beq l2.st sz with
   |false=>rw[hbe]at hc;cases hc
   |true=>
    rw[hbe]at hc
    simp only[cond_true,Option.some.injEq,Prod.mk.injEq]at hc
    obtain⟨rfl,rfl,rfl⟩:=hc
    have hst2:=Qb0 hbe
    obtain⟨hu,ed,_,hed,hsz,hs0,hb0,hby,hz⟩:=z6c hcx he
    obtain⟨u,u',e1,hd,hd'⟩:=q4u hin
    rw[←hv]at e1
    cases e1
    have hx:=q0b hd
    obtain⟨A,c',news,hy,hn1,hn2,hn3,hn4⟩:=u0o hhp hm hsrc (by omega) hd'
    have hpb:l2.len*by_≤140737488355328:=hps
    have hone:=x1g hn1 (by omega) hn4
    obtain⟨v',W',hr',o1,o2,o3⟩:=z9j (P:=P) (ty:=o.type) (c:=c') (m:=l2.len) hu hed (st:=l2.st) (by omega) (by omega) (by omega) g.W (q5a.nil g.W e (by omega)) hn1 hn3 hone (by rw[hby,Qg7];exact hpb)
    refine .of_run (hrun v' W' ?_) (good_row (ob:=none) (xs:=[]++news) hm hn o2 (fun b hb=>by cases hb) (fun a ob hx'=>?_) (by rw[Qg7]at o1;exact o1) hn2 (fun i j hi hj=>by simpa using hn4 i j hi hj) (fun b hb=>?_))
    ·rw[hx,hy];exact hr'
    ·rcases x3q hx' with h|⟨ha1,ha3⟩
     ·exact .inl h
     ·exact .inr ⟨ha1,ha3,fun b hb=>by cases hb⟩
    ·rw[o1.blk]at hb
     rcases o3 b hb with h|h
     ·cases h
     ·exact .inr h
  ·cases hc
 ·cases hc
theorem j9d (hcx:q1c P cx) (hm:MOk w0 G0 g H) (hin:q0e g ins vs) {t:Nat} {x:Operand} {lo hi mx:Option Operand} (hc:y9m cx t lo.isSome hi.isSome mx.isSome ins=some (ps,v,hs)) (hps:q3n ps)
 (hop:o.op=.slice t x lo hi mx) (hv:(x::(lo.toList++hi.toList++mx.toList)).map ρ=vs):Eff P ρ o g.W (Good w0 G0 g nm (q2e H hs) v):=by
 have key:∀(l:LD) (a b:Nat),z1y cx t l=true→Rep g.W g.G (.ls l) (ρ x)→a≤b→b≤l.len→mx=none→(∀n c W,n=l.len→n≤c→(Instr.sliceBounds true n c (lo.map ρ) (hi.map ρ) none).run P W=.ok (a,b,c) W)→
  Eff P ρ o g.W (Good w0 G0 g nm (q2e H []) (.im (.ls (l.sub a b)))):=by
  intro l a b he hd hab hb hmx hbd
  subst hmx
  obtain⟨e,ed,hu,hed,hst⟩:=y6g hcx he
  obtain⟨s1,s2,s3⟩:=k6n l hab hb
  have hmxl:=hd.lenMax
  obtain⟨A,c,hx,hlc⟩:=hd.slice
  have hr:(execOp ρ o).run P g.W=.ok (.value (.slice (if c=a then A else A.map (·.add (a*l.st))) (b-a) (c-a))) g.W:=by
   simp[execOp,hop,hx,Instr.sliceAt,run_underlying hu,Instr.slice,hbd _ _ _ rfl hlc,hed.sizeOf,hst,Result.andThen]
  refine .of_run hr (q0m hm ?_)
  simp only[Den]
  rw[←s1]
  by_cases h0:(l.sub a b).len=0
  ·rw[h0];exact .nil _ _ _ h0
  ·rcases hd.cases_ls with⟨h1,_⟩|⟨bk,off,c',w,hx',h1,h2,h3,h4,h5⟩
   ·omega
   ·rw[hx]at hx'
    injection hx' with hA _ hcc
    subst hA hcc
    rw[if_neg (by omega),Qg1,q5c]
    refine .ls _ bk _ _ (fun i j=>w (a+i) j) (by omega) (by omega) h3 (fun i j hi hj=>?_) (fun i j hi hj=>?_)
    ·rw[s2]at hj⊢
     have:=h4 (a+i) j (by omega) hj
     rw[show off+(a+i)*l.st+j=off+a*l.st+i*l.st+j by rw[Qk5];omega]at this
     exact this
    ·rw[s3 i j (by omega)]
     rw[s2]at hj
     exact h5 (a+i) j (by omega) hj
 unfold y9m at hc
 split at hc
 ·rename_i l rest
  cases hb:(z1y cx t l&& !mx.isSome)with
  |false=>rw[hb]at hc;cases hc
  |true=>
   rw[hb]at hc
   simp only[cond_true]at hc
   simp only[Qa2]at hb
   have hmx:mx=none:=by cases mx with|none=>rfl|some _=>simp at hb
   subst hmx
   simp only[q0e]at hin
   obtain⟨u,us,e1,hd,hrest⟩:=hin
   rw[←hv]at e1
   simp only[Qc6,List.cons.injEq]at e1
   obtain⟨e1,e2⟩:=e1
   subst e1
   simp only[Den]at hd
   cases lo with
   |none=>
    cases hi with
    |none=>
     change sl0 l rest=some (ps,v,hs)at hc
     unfold sl0 at hc
     split at hc
     ·obtain⟨rfl,rfl,rfl⟩:=q0q hc
      exact key l 0 l.len hb.1 hd (Qc1 _) (Qb8 _) rfl (fun n c W hn hc=>by subst hn;simp[Instr.sliceBounds])
     ·cases hc
    |some y=>
     change v0j l rest=some (ps,v,hs)at hc
     unfold v0j at hc
     split at hc
     ·rename_i b
      obtain⟨rfl,rfl,rfl⟩:=q1s hc
      have hp:0≤b∧b≤l.len:=hps
      obtain⟨z,hz,hdz⟩:=q4w hrest
      rw[hz]at e2
      have hy:ρ y=.int .i64 b:=by have:=q0b hdz;simp at e2;rw[e2];exact this
      exact key l 0 b.toNat hb.1 hd (Qc1 _) (by omega) rfl (fun n c W hn hc=>by
       have h1:0≤b∧b≤(c:Int):=by omega
       simp[Instr.sliceBounds,Instr.sliceBound,hy,asIntOf,h1])
     ·cases hc
   |some y=>
    cases hi with
    |none=>
     change v1q l rest=some (ps,v,hs)at hc
     unfold v1q at hc
     split at hc
     ·rename_i a
      obtain⟨rfl,rfl,rfl⟩:=q1s hc
      have hp:0≤a∧a≤l.len:=hps
      obtain⟨z,hz,hdz⟩:=q4w hrest
      rw[hz]at e2
      have hy:ρ y=.int .i64 a:=by have:=q0b hdz;simp at e2;rw[e2];exact this
      exact key l a.toNat l.len hb.1 hd (by omega) (Qb8 _) rfl (fun n c W hn hc=>by subst hn;simp[Instr.sliceBounds,Instr.sliceBound,hy,asIntOf,hp])
     ·cases hc
    |some y'=>
     change x6p l rest=some (ps,v,hs)at hc
     unfold x6p at hc
     split at hc
     ·rename_i a b
      obtain⟨rfl,rfl,rfl⟩:=q1s hc
      have hp:0≤a∧a≤b∧b≤l.len:=hps
      obtain⟨z,z',hz,hdz,hdz'⟩:=q4u hrest
      rw[hz]at e2
      simp at e2
      have hy:ρ y=.int .i64 a:=by rw[e2.1];exact q0b hdz
      have hy':ρ y'=.int .i64 b:=by rw[e2.2];exact q0b hdz'
      exact key l a.toNat b.toNat hb.1 hd (by omega) (by omega) rfl (fun n c W hn hc=>by
       have h1:0≤b∧b≤(c:Int):=by omega
       have h2:0≤a∧a≤max b 0:=by omega
       simp[Instr.sliceBounds,Instr.sliceBound,hy,hy',asIntOf,h1,h2])
     ·cases hc
 ·cases hc
theorem y2l (hm:MOk w0 G0 g H) (hin:q0e g ins vs) {fn:Fn} {first caps:Array Operand} (hc:z7g fn first.size ins=some (ps,v,hs)) (hop:o.op=.makeFunc fn first caps) (hv:(first++caps).toList.map ρ=vs):Eff P ρ o g.W (Good w0 G0 g nm (q2e H hs) v):=by
 unfold z7g at hc
 split at hc
 ·rename_i f hf
  cases hlt:Nat.blt f bndK with
  |false=>rw[hlt]at hc;cases hc
  |true=>
   rw[hlt]at hc
   obtain⟨rfl,rfl,rfl⟩:=q0q hc
   have hfe:first= #[]:=by simpa using hf
   subst hfe
   refine .of_run (u:=.func (.func f) #[] (caps.map ρ)) (W':=g.W) ?_ (q0m hm ?_)
   ·simp[execOp,hop,Instr.makeFunc]
   ·simp only[Den]
    refine⟨vs,?_,hin⟩
    rw[←hv,z1u hlt]
    congr 1
    apply Array.toList_inj.1
    simp
 ·rename_i f n hf
  cases hlt:(Nat.blt f bndK&&Nat.beq ins.length (n+1))with
  |false=>rw[hlt]at hc;cases hc
  |true=>
   rw[hlt]at hc
   obtain⟨rfl,rfl,rfl⟩:=q0q hc
   rw[Qa2]at hlt
   have hil:=Qb0 hlt.2
   have hlen:=q0e.length hin
   rw[←hv]at hlen
   simp only[Qa9,Qf0,Qp8]at hlen
   have hce:caps= #[]:=by
    have:caps.size=0:=by omega
    exact Array.eq_empty_of_size_eq_zero this
   subst hce
   have hb:Nat.blt (f+bndK) bndK=false:=by
    cases h:Nat.blt (f+bndK) bndK with
    |false=>rfl
    |true=>have:=Qc3 h;omega
   refine .of_run (u:=.func (.func f) (first.map ρ) #[]) (W':=g.W) ?_ (q0m hm ?_)
   ·simp[execOp,hop,Instr.makeFunc]
   ·simp only[Den]
    refine⟨vs,?_,hin⟩
    rw[←hv,k9i hb,Nat.add_sub_cancel]
    congr 1
    apply Array.toList_inj.1
    simp
 ·cases hc
end
end
end Go.Proofs.YteikjpbbhopkaaaGreatDoor.En
namespace Go.Proofs.YteikjpbbhopkaaaGreatDoor.En
section
open Go Go.RowKit
section
variable {P:Program} (w:World)
theorem q7j (z zv:Value) (hz:z.cells= #[zv]) (n:Nat):(Builtin.zeroCells z.cells n).toList=List.replicate n zv:=by
 rw[hz]
 unfold Builtin.zeroCells
 apply Qh6
 ·simp
 ·intro i h1 h2
  simp[Nat.mod_one]
theorem z5i (t tx ty e:TypeId) (i:TypeInfo) (z zv:Value) (ht:P.underlying t=some (.slice e)) (htx:P.underlying tx=some (.int .i64)) (hi:P.info? e=some i) (hiz:i.zero=some z) (hsize:i.size=1) (hz:z.cells= #[zv]) (h1:zv.oneCell'=true)
 (b off sLen sCap n:Nat) (hn:(n:Int)≤9223372036854775807) (hfit:n*i.bytes≤281474976710656) (hroom:sLen+n≤sCap) (hc:∀j,j<n→(w.cell? ⟨b,off+sLen+j,none⟩).isSome=true) (hf:∀j,j<n→w.frozen? ⟨b,off+sLen+j,none⟩=false):
 (Builtin.append_ #[t,tx] ty #[.slice (some ⟨b,off,none⟩) sLen sCap,.int .i64 n]).run P w=.ok (.slice (some ⟨b,off,none⟩) (sLen+n) sCap) (w.setCells b (off+sLen) (List.replicate n zv)):=by
 have hst:=run_storeCells_cells (P:=P) b (off+sLen) (List.replicate n zv) 0 w (by simpa using hc) (by simpa using hf) (fun u hu=>by rw[(List.mem_replicate.1 hu).2];exact h1)
 simp only[Qd9]at hst
 have hw:IntKind.i64.wrap (n:Int)=n:=IntWalk.i64_in _ (show Fit (n:Int)from⟨Qo2 (by decide) (Ql2 n),hn⟩)
 have hw0:IntKind.i64.wrap 0=0:=by kernel_rfl
 have hneg:¬((n:Int)<0):=Int.not_lt.2 (Ql2 n)
 have hbig:¬(281474976710656<(n:Int)*(i.bytes:Int)):=by
  rw[←Qr8]
  exact Int.not_lt.2 (Int.ofNat_le.2 hfit)
 by_cases h0:n=0
 ·subst h0
  simp at hroom hst
  simp[Builtin.append_,run_underlying ht,run_underlying htx,sizeOf,typeInfo,hi,asInt,asIntOf,hw0,hsize,hroom,Addr.add_lit,hst]
 ·have hz':=q7j z zv hz n
  simp[Builtin.append_,run_underlying ht,run_underlying htx,sizeOf,typeInfo,zeroValue,hiz,hi,asInt,asIntOf,hw,hneg,hbig,hsize,hroom,h0,hz',Addr.add_lit,hst]
theorem z5j (t tx ty e:TypeId) (i:TypeInfo) (z zv:Value) (ht:P.underlying t=some (.slice e)) (htx:P.underlying tx=some (.int .i64)) (hi:P.info? e=some i) (hiz:i.zero=some z) (hsize:i.size=1) (hz:z.cells= #[zv])
 (base:Option Addr) (sLen sCap n:Nat) (olds:List Value) (hold:(Builtin.firstCells i.size sLen (.slice base sLen sCap)).run P w.drew=.ok olds.toArray w.drew) (hn:(n:Int)≤9223372036854775807) (hfit:n*i.bytes≤281474976710656)
 (hg:sCap<sLen+n) (h63:((sLen+n:Nat):Int)≤9223372036854775807) (hfit2:Builtin.nextslicecap (sLen+n) sCap*i.bytes≤281474976710656):
 (Builtin.append_ #[t,tx] ty #[.slice base sLen sCap,.int .i64 n]).run P w=
  .ok (.slice (some ⟨w.heap.size,0,none⟩) (sLen+n) (grownCap w (sLen+n) sCap e))
   (w.drew.alloc (.cells ((olds++List.replicate n zv).toArray++Builtin.zeroCells z.cells (grownCap w (sLen+n) sCap e-(sLen+n))) e)):=by
 have hnr:¬(sLen+n≤sCap):=by omega
 have h63':¬(9223372036854775807<((sLen:Int)+(n:Int))):=by omega
 have h48':¬(281474976710656<Builtin.nextslicecap (sLen+n) sCap*i.bytes):=by omega
 have hw:IntKind.i64.wrap (n:Int)=n:=IntWalk.i64_in _ (show Fit (n:Int)from⟨Qo2 (by decide) (Ql2 n),hn⟩)
 have hw0:IntKind.i64.wrap 0=0:=by kernel_rfl
 have hneg:¬((n:Int)<0):=Int.not_lt.2 (Ql2 n)
 have hbig:¬(281474976710656<(n:Int)*(i.bytes:Int)):=by
  rw[←Qr8]
  exact Int.not_lt.2 (Int.ofNat_le.2 hfit)
 have hz':=q7j z zv hz n
 by_cases h0:n=0
 ·subst h0
  rw[hsize]at hold
  simp only[Qd9,Int.natCast_zero,Qn9]at hnr h63' h48'
  simp[Builtin.append_,run_underlying ht,run_underlying htx,sizeOf,typeInfo,zeroValue,hi,hiz,asInt,asIntOf,hw0,hnr,h63',h48',Question.forced,hold,newRow,grownCap,hsize]
 ·simp[Builtin.append_,run_underlying ht,run_underlying htx,sizeOf,typeInfo,zeroValue,hi,hiz,asInt,asIntOf,hw,hneg,hbig,hnr,h63',h48',Question.forced,hold,newRow,grownCap,hsize,h0]
  rw[hsize]at hold
  simp[hold]
  congr 2
  apply Array.ext'
  simp[hz',Qc4]
theorem y4z {t tx ty e:TypeId} {ed:TD} {zv:Value} (ht:P.underlying t=some (.slice e)) (htx:P.underlying tx=some (.int .i64)) (hed:z4y P e ed) (h1:ed.size=1) (hz:ed.zero=[zv]) (ho:zv.oneCell'=true) (hb0:0<ed.bytes) {v:Value} {xs:List Value} (hown:Own w e v xs) {m:Nat}
 (hbytes:(xs.length+m)*ed.bytes≤140737488355328):
 ∃v' W',(Builtin.append_ #[t,tx] ty #[v,.int .i64 m]).run P w=.ok v' W'∧Own W' e v' (xs++List.replicate m zv)∧w.grownBy W' v.ownBlock∧∀b,v'.ownBlock=some b→v.ownBlock=some b∨b=w.heap.size:=by
 obtain⟨i,z,hi,hs,hz',hzc,hby⟩:=hed.info
 have hzc':z.cells= #[zv]:=by apply Array.ext';rw[hzc,hz]
 have hsize:i.size=1:=by rw[hs,h1]
 have hle:xs.length+m≤(xs.length+m)*ed.bytes:=Qh2 _ hb0
 have h63:xs.length+m≤maxLen:=by unfold maxLen;omega
 have hm:(m:Int)≤9223372036854775807:=by unfold maxLen at h63;omega
 have hmb:m*i.bytes≤281474976710656:=by
  rw[hby]
  have:m*ed.bytes≤(xs.length+m)*ed.bytes:=Qk1 _ (by omega)
  omega
 have grow:∀(base:Option Addr) (cap:Nat),(Builtin.firstCells i.size xs.length (.slice base xs.length cap)).run P w.drew=.ok xs.toArray w.drew→cap<xs.length+m→
  ∃v' W',(Builtin.append_ #[t,tx] ty #[.slice base xs.length cap,.int .i64 m]).run P w=.ok v' W'∧Own W' e v' (xs++List.replicate m zv)∧w.grownBy W' none∧v'.ownBlock=some w.heap.size:=by
  intro base cap hold hg
  have hr:=z5j w t tx ty e i z zv ht htx hi hz' hsize hzc' base xs.length cap m xs hold hm hmb hg (by unfold maxLen at h63;omega) (growslice_fits (by omega) (by rw[hby];exact hbytes))
  have hge:=grownCap_ge w (xs.length+m) cap e
  have hcm:=grownCap_le_maxLen w (xs.length+m) cap e h63
  refine⟨_,_,hr,.inr ⟨w.heap.size,0,_,_,by simp,.mk0 (heap_alloc_new w.drew _),by simpa using hge,hcm,?_,fun j hj=>?_⟩,?_,rfl⟩
  ·have hzl:(Builtin.zeroCells z.cells (grownCap w (xs.length+m) cap e-(xs.length+m))).size=grownCap w (xs.length+m) cap e-(xs.length+m):=by
    rw[←Qf0,q7j z zv hzc',Qb1]
   simp[hzl]
   omega
  ·rw[Qg7,Qj4 (by simpa using hj)]
   simp only[Qa5]
   rw[Qa0 hj]
  ·exact⟨rfl,rfl,rfl,by simp,fun k hk _=>Below.heap_alloc w.drew _ k hk⟩
 rcases hown with⟨rfl,rfl⟩|⟨g,off,cap,cur,rfl,hg,hnc,hcmx,hfit,hcs⟩
 ·by_cases h0:m=0
  ·subst h0
   have hw0:IntKind.i64.wrap 0=0:=by kernel_rfl
   refine⟨.slice none 0 0,w,?_,Own.nil w e,⟨rfl,rfl,rfl,Qb8 _,fun _ _ _=>rfl⟩,fun b hb=>.inl hb⟩
   simp[Builtin.append_,run_underlying ht,run_underlying htx,sizeOf,typeInfo,hi,asInt,asIntOf,hw0,hsize]
  ·obtain⟨v',W',hr,h2,h3,h4⟩:=grow none 0 (by simp[Builtin.firstCells]) (by simp;omega)
   exact⟨v',W',hr,h2,⟨h3.os,h3.tape,h3.output,h3.size,fun k hk _=>h3.block k hk (by simp)⟩,fun b hb=>.inr (by rw[h4]at hb;injection hb with hb;exact hb.symm)⟩
 ·have hcell:∀j,j<xs.length→w.cell? ⟨g,off+j,none⟩=xs[j]? :=fun j hj=>by
   rw[hg.cell (off+j),hcs j hj,Qa0 hj]
  by_cases hroom:xs.length+m≤cap
  ·have hcell2:∀j,j<m→(w.cell? ⟨g,off+xs.length+j,none⟩).isSome=true:=fun j hj=>by
    rw[hg.cell,Qg9 (by omega)];rfl
   have hfz:∀j,j<m→w.frozen? ⟨g,off+xs.length+j,none⟩=false:=fun j hj=>hg.frozen (by omega)
   have hr:=z5i w t tx ty e i z zv ht htx hi hz' hsize hzc' ho g off xs.length cap m hm hmb hroom hcell2 hfz
   have hone:∀u∈List.replicate m zv,u.oneCell'=true:=fun u hu=>by rw[(List.mem_replicate.1 hu).2];exact ho
   have hlen:(List.replicate m zv).length=m:=Qb1
   have hset:w.setCells g (off+xs.length) (List.replicate m zv)=w.setRow g (cur.toList.take (off+xs.length)++List.replicate m zv++cur.toList.drop (off+xs.length+(List.replicate m zv).length)).toArray:=by
    exact q4o.store _ _ cur w hg (by rw[hlen];omega)
   rw[hset]at hr
   refine⟨_,_,hr,.inr ⟨g,off,cap,_,by simp,hg.setRow (by simp;omega),by simp;omega,hcmx,by simp;omega,fun j hj=>?_⟩,⟨rfl,rfl,rfl,by simp,fun k _ hk=>setRow_other w g k _ (fun e=>hk (by simp[Value.ownBlock,e]))⟩,fun b hb=>.inl hb⟩
   simp only[Qa3,hlen]at hj
   simp only[Qa5]
   rw[Qc4,Qm4]
   by_cases hjx:j<xs.length
   ·rw[if_pos (by simp;omega),Qn2,if_pos (by omega)]
    rw[Qi2 hjx,←hcs j hjx]
    simp
   ·rw[if_neg (by simp;omega),Qe3 (by simp;omega),Qh9 (by omega)]
    have:off+j-(cur.toList.take (off+xs.length)).length=j-xs.length:=by simp;omega
    rw[this,Qa0 (by simp;omega)]
  ·obtain⟨v',W',hr,h2,h3,h4⟩:=grow (some ⟨g,off,none⟩) cap (by
    rw[hsize]
    refine run_firstCells_some w.drew 1 xs.length _ xs.length cap xs (by simp) fun j u hu=>?_
    obtain⟨hj,rfl⟩:=List.getElem?_eq_some_iff.1 hu
    rw[q5c]
    exact(hcell j hj).trans (Qa0 hj)) (by omega)
   exact⟨v',W',hr,h2,⟨h3.os,h3.tape,h3.output,h3.size,fun k hk _=>h3.block k hk (by simp)⟩,fun b hb=>.inr (by rw[h4]at hb;injection hb with hb;exact hb.symm)⟩
end
theorem x3l {k n:Nat} {zs:List Value} {l:LD} (hk:q9h k zs=true) (hl:LD.zeros k n=some l):∃zv,zs=[zv]∧zv.oneCell'=true∧l.len=n∧l.st=1∧∀j,j<n→l.cell j 0=.val zv:=by
 unfold LD.zeros at hl
 split at hl
 ·cases hl
  unfold q9h at hk
  split at hk
  ·rename_i m h1
   have hm:m=0:=by simpa using hk
   subst hm
   refine⟨_,rfl,rfl,by simp[LD.len],rfl,fun j hj=>?_⟩
   have hg:(List.replicate n (0:Int)).getD j 0=0:=by simp[List.getD,hj]
   simp only[LD.cell,hg]
  ·rename_i h1;cases h1
  ·cases hk
 ·cases hl
  unfold q9h at hk
  split at hk
  ·rename_i h1;cases h1
  ·rename_i b h1
   have hb:b=false:=by simpa using hk
   subst hb
   refine⟨_,rfl,rfl,by simp[LD.len],rfl,fun j hj=>?_⟩
   have hg:(List.replicate n false).getD j false=false:=by simp[List.getD,hj]
   simp only[LD.cell,hg]
  ·cases hk
 ·cases hl
section
variable {P:Program} {cx:Cx} {w0:Base} {G0:Nat→Prop} {g:Gh} {H hp:Nat→Option q0d} {nm:Nat} {ins:List AV} {vs:List Value} {ps:List Prop} {v:AV} {hs:List (Nat×Option q0d)} {ρ:Operand→Value} {o:Oper}
theorem y4s (hcx:q1c P cx) (hhp:∀r o,hp r=some o→H r=some o) (hm:MOk w0 G0 g H) (hn:¬g.U nm) (hin:q0e g ins vs) {t t2:Nat} (hc:z6d cx nm t t2 hp ins=some (ps,v,hs)) (hps:q3n ps)
 {c:Call} {x y:Operand} (hop:o.op=.call c) (hb:c.callee=.builtin .append) (ht:c.argTypes= #[t,t2]) (ha:c.args= #[x,y]) (hv:[ρ x,ρ y]=vs):Eff P ρ o g.W (Good w0 G0 g nm (q2e H hs) v):=by
 have hrun:∀v' W',(Builtin.append_ #[t,t2] o.type #[ρ x,ρ y]).run P g.W=.ok v' W'→(execOp ρ o).run P g.W=.ok (.value v') W':=by
  intro v' W' h
  simp[execOp,hop,resolve,hb,ht,ha,invoke,builtin,h,Result.andThen]
 unfold z6d at hc
 split at hc
 ·rename_i r n
  split at hc
  ·rename_i e by_ k e' l he hr
   split at hc
   ·rename_i l2 hl2
    split at hc
    ·rename_i l3 happ
     cases hbe:(Nat.beq e e'&&(Nat.beq l.st 1&&(u2d cx t2&&zeroOf cx e k)))with
     |false=>rw[hbe]at hc;cases hc
     |true=>
      rw[hbe]at hc
      simp only[cond_true,Option.some.injEq,Prod.mk.injEq]at hc
      obtain⟨rfl,rfl,rfl⟩:=hc
      simp only[Qa2]at hbe
      obtain⟨b1,b2,b3,b4⟩:=hbe
      have:=Qb0 b1
      subst this
      have hst:=Qb0 b2
      obtain⟨hu,ed,hled,hed,hsz,hb0,hby,hzl⟩:=x1s hcx he
      have hzk:q9h k ed.zero=true:=by unfold zeroOf at b4;rw[hled]at b4;exact b4
      obtain⟨zv,hz,hone,z1,z2,z3⟩:=x3l hzk hl2
      have htx:P.underlying t2=some (.int .i64):=by
       unfold u2d at b3
       split at b3
       ·rename_i td2 ht2
        have hik:=Qb0 b3
        obtain⟨dd',hud,hdd⟩:=(hcx.ty t2 td2 ht2).desc
        have h1:(descOf dd').2.2.2.2=td2.ik:=by rw[hdd]
        rw[hik]at h1
        rw[hud]
        unfold descOf at h1
        split at h1<;>simp only at h1
        all_goals first
         |(rename_i kk;cases kk<;>simp[kNo]at h1<;>rfl)
         |omega
         |(simp at h1)
       ·cases b3
      obtain⟨u,u',e1,hd,hd'⟩:=q4u hin
      rw[←hv]at e1
      cases e1
      simp only[Den]at hd
      obtain⟨hU,hx,_⟩:=hd
      have hy:=q0b hd'
      have hH:=hhp r _ hr
      obtain⟨_,xs,ho,h2,h4⟩:=hm.ok r _ hH
      rw[hst]at ho
      obtain⟨ho1,hxl⟩:=ho.one
      have hp:0≤n∧(l.len+n.toNat)*by_≤140737488355328:=hps
      obtain⟨a1,a2,a2',a3,a4⟩:=j5o happ
      obtain⟨v',W',hr',o1,o2,o3⟩:=y4z (P:=P) g.W (ty:=o.type) hu htx hed hsz hz hone (by omega) ho1 (m:=n.toNat) (by rw[hxl,hby];exact hp.2)
      rw[Int.toNat_of_nonneg hp.1]at hr'
      rw[←ho.blk]at o2
      have hor:q5a W' e 1 v' (l.len+n.toNat) (xs++List.replicate n.toNat zv):=.of_one o1 (by rw[Qa3,hxl,Qb1])
      refine .of_run (hrun v' W' ?_) (good_row (ob:=q1k (g.β r)) (xs:=xs++List.replicate n.toNat zv) hm hn o2 (fun b hb=>hm.own r _ b hH hb) (fun a ob hx'=>?_) (by rw[a2,hst,a1,z1];exact hor) ?_ (fun i j hi hj=>?_) (fun b hb=>?_))
      ·rw[hx,hy];exact hr'
      ·rcases u4y hx' with h|⟨ha1,ha2,ha3⟩
       ·exact .inl h
       ·exact .inr ⟨ha1,ha3,fun b hb hb'=>ha2 (hm.sep a r _ _ b ha3 hH hb' hb)⟩
      ·rw[a1,z1]
       have:l.len+n.toNat≤(l.len+n.toNat)*by_:=Qh2 _ (by omega)
       unfold maxLen
       omega
      ·rw[a1,z1]at hi
       rw[a2,hst]at hj⊢
       have hj0:j=0:=by omega
       subst hj0
       rw[Qf6,Qd9]
       by_cases hlt:i<l.len
       ·rw[a3 i 0 hlt,q3p _ _ _ _ (by omega)]
        have:=h4 i 0 hlt (by omega)
        rwa [hst,Qf6,Qd9]at this
       ·obtain⟨q,rfl⟩:∃q,i=l.len+q:=⟨i-l.len,by omega⟩
        rw[a4 q 0,←hxl,q3m,z3 q (by omega)]
        have:(List.replicate n.toNat zv).getD q undef=zv:=by simp[List.getD,show q<n.toNat by omega]
        rw[this]
        exact .val _
      ·rw[hor.blk]at hb
       rw[ho.blk]
       exact o3 b hb
    ·cases hc
   ·cases hc
  ·cases hc
 ·cases hc
end
end
end Go.Proofs.YteikjpbbhopkaaaGreatDoor.En
namespace Go.Proofs.YteikjpbbhopkaaaGreatDoor.En
section
open Go Go.RowKit
theorem u1e (f:Nat→Value):Array.map f (Array.range 0)= #[]:=by
 apply Array.ext<;>simp
theorem z8x {α:Type}:∀(l us:List α) (m:Nat) (u:α),m<l.length→setAt (l.set m u) (m+1) us=setAt l m (u::us)
 |[],_,_,_,h=>by simp at h
 |x::l,us,0,u,_=>by cases us<;>simp[setAt]
 |x::l,us,m+1,u,h=>by
  simp only[Qb3]
  cases us with
  |nil=>have:=z8x l [] m u (by simpa using h);simp only[setAt]at this⊢;rw[←this]
  |cons y ys=>simp only[setAt];rw[z8x l (y::ys) m u (by simpa using h)]
theorem j3s (off:Nat):∀(us:List Value) (k:Nat) (cells:Array Value),off+k+us.length≤cells.size→((us.zipIdx k).foldl (fun cs x=>cs.setIfInBounds (off+x.2) x.1) cells).toList=setAt cells.toList (off+k) us
 |[],k,cells,_=>by cases h:cells.toList<;>simp[setAt,h]
 |u::us,k,cells,h=>by
  simp only[List.zipIdx_cons,Qe2]
  simp only[Qa8]at h
  rw[j3s off us (k+1) _ (by simp;omega),Array.toList_setIfInBounds,←Qg5,z8x _ _ _ _ (by simp;omega)]
theorem j9u {place:Nat→Option (Nat×Nat)} {cells:Array Value} {i off size:Nat} {v:Value} {rest:List (Nat×Value)} (hp:place i=some (off,size)) (hs:v.cells.size=size) (hl:off+v.cells.size≤cells.size):
 ∃cells':Array Value,cells'.toList=setAt cells.toList off v.cells.toList∧cells'.size=cells.size∧Instr.fill place cells ((i,v)::rest)=Instr.fill place cells' rest:=by
 refine⟨v.cells.zipIdx.foldl (fun cs (x:Value×Nat)=>cs.setIfInBounds (off+x.2) x.1) cells,?_,?_,?_⟩
 ·have:=j3s off v.cells.toList 0 cells (by simpa using hl)
  rw[←Qp6]
  simpa using this
 ·have:=j3s off v.cells.toList 0 cells (by simpa using hl)
  have h2:(v.cells.zipIdx.foldl (fun cs (x:Value×Nat)=>cs.setIfInBounds (off+x.2) x.1) cells).toList.length=cells.toList.length:=by
   rw[←Qp6]
   have h3:((v.cells.zipIdx.toList).foldl (fun cs (x:Value×Nat)=>cs.setIfInBounds (off+x.2) x.1) cells).toList=setAt cells.toList off v.cells.toList:=by simpa using this
   rw[h3,q7s _ _ _ (by simpa using hl)]
   simp
   omega
  simpa using h2
 ·simp only[Instr.fill,hp]
  rw[if_neg (by simp[hs];omega)]
section
variable {P:Program} {cx:Cx} {w0:Base} {G0:Nat→Prop} {g:Gh} {H hp:Nat→Option q0d} {nm:Nat}
 {ins:List AV} {vs:List Value} {ρ:Operand→Value} {o:Oper} {ps:List Prop} {v:AV} {hs:List (Nat×Option q0d)}
theorem z8j (W:World):∀(l:List Field),(∀f∈l,∃n,(sizeOf f.type).run P W=.ok n W)→∃q:List (Nat×Nat),(l.mapM (fun f=>do pure (f.offset,←sizeOf f.type):Field→Sem (Nat×Nat))).run P W=.ok q W∧
 ∀(i:Nat) (f:Field) (n:Nat),l[i]? =some f→(sizeOf f.type).run P W=.ok n W→q[i]? =some (f.offset,n)
 |[],_=>⟨[],by simp,fun i f n h=>by simp at h⟩
 |f::l,h=>by
  obtain⟨n,hn⟩:=h f Qb4
  obtain⟨q,hq,hq2⟩:=z8j W l (fun f hf=>h f (Qb7 _ hf))
  refine⟨(f.offset,n)::q,?_,fun i f' n' hi hn'=>?_⟩
  ·rw[List.mapM_cons,Sem.run_bind,Sem.run_bind,hn]
   simp only[Result.andThen,Sem.run_pure,Sem.run_bind,hq]
  ·rcases i with _|i
   ·simp at hi
    subst hi
    rw[hn]at hn'
    injection hn' with e _
    rw[e]
    rfl
   ·exact hq2 i f' n' (by simpa using hi) hn'
theorem y9r {place:Nat→Option (Nat×Nat)} {td:TD} (hpl:∀(f off ft:Nat) (fd:TD),td.fields[f]? =some (off,ft)→look ft cx.ty=some fd→place f=some (off,fd.size)):
 ∀(ix:List Nat) (ins:List AV) (us:List Value) (cs:List AV) (cells:Array Value) (cs':List AV),z0z cx td ix ins=true→q0e g ins us→q0e g cs cells.toList→z2n td ix ins cs=some cs'→
  ∃cells':Array Value,Instr.fill place cells (ix.zip us)=some cells'∧q0e g cs' cells'.toList
 |[],[],us,cs,cells,cs',_,hi,hc,hb=>by
  simp only[z2n,Option.some.injEq]at hb
  subst hb
  have:us=[]:=by simpa[q0e]using hi
  subst this
  exact⟨cells,by simp[Instr.fill],hc⟩
 |f::fs,x::xs,us,cs,cells,cs',hsz,hi,hc,hb=>by
  simp only[q0e]at hi
  obtain⟨u,us',rfl,hx,hxs⟩:=hi
  simp only[z0z,Qa2]at hsz
  obtain⟨h1,h2⟩:=hsz
  unfold z2n at hb
  split at hb
  ·rename_i off ft hf
   cases hbb:(x.cells.all AV.one&&Nat.ble (off+x.cells.length) cs.length)with
   |false=>rw[hbb]at hb;cases hb
   |true=>
    rw[hbb]at hb
    simp only[cond_true]at hb
    simp only[Qa2]at hbb
    rw[hf]at h1
    simp only at h1
    split at h1
    ·rename_i fd hfd
     have hcl:=z8u hbb.1 hx
     have hlen:=hcl.length
     have hlc:=hc.length
     have hle:=Qc3 hbb.2
     have hse:u.cells.size=fd.size:=by rw[←Qf0,hlen];exact Qb0 h1
     obtain⟨cells',e1,e2,e3⟩:=j9u (rest:=fs.zip us') (v:=u) (cells:=cells) (hpl f off ft fd hf hfd) hse (by rw[←Qf0,hlen,←Qf0,hlc];exact hle)
     rw[Qh5,e3]
     exact y9r hpl fs xs us' _ cells' cs' h2 hxs (by rw[e1];exact hc.setAt off hcl hle) hb
    ·cases h1
  ·cases hb
 |[],_::_,_,_,_,_,hsz,_,_,_=>by simp[z0z]at hsz
 |_::_,[],_,_,_,_,hsz,_,_,_=>by simp[z0z]at hsz
theorem q8j:∀(ps:List (Nat×Operand)),(ps.map (·.1)).zip ((ps.map (·.2)).map ρ)=ps.map fun x=>(x.1,ρ x.2)
 |[]=>rfl
 |x::l=>by simp only[Qc6,Qh5];rw[q8j l]
theorem x5s (hcx:q1c P cx) (hm:MOk w0 G0 g H) (hin:q0e g ins vs) {t:Nat} {parts:Array (Nat×Operand)} (hc:x7x cx t (parts.toList.map (·.1)) ins=some (ps,v,hs)) (hop:o.op=.build t parts) (hv:(parts.toList.map (·.2)).map ρ=vs):
 Eff P ρ o g.W (Good w0 G0 g nm (q2e H hs) v):=by
 unfold x7x at hc
 split at hc
 ·rename_i td ht
  cases hb:(Nat.blt 0 td.fields.length&&y9b cx td&&z0z cx td (parts.toList.map (·.1)) ins)with
  |false=>rw[hb]at hc;cases hc
  |true=>
   rw[hb]at hc
   simp only[cond_true]at hc
   simp only[Qa2]at hb
   obtain⟨⟨h0,hfo⟩,hsz⟩:=hb
   split at hc
   ·rename_i cs hcs
    obtain⟨rfl,rfl,rfl⟩:=q0q hc
    have hty:=hcx.ty t td ht
    obtain⟨z,hz,hzc⟩:=hty.zero g.W
    have hf1:0<td.fields.length:=by simpa using h0
    obtain⟨fs,hu,_⟩:=hty.field (f:=0) (off:=(td.fields[0]'hf1).1) (ft:=(td.fields[0]'hf1).2) (Qa0 hf1)
    obtain⟨d,hud,hdd⟩:=hty.desc
    rw[hu]at hud
    cases hud
    have hfl:fs.toList.map (fun f=>(f.offset,f.type))=td.fields:=by have:=congrArg (fun x=>x.2.1) hdd;simpa[descOf]using this
    have hfield:∀f∈fs.toList,∃fd,look f.type cx.ty=some fd:=by
     intro f hf
     have hm:(f.offset,f.type)∈td.fields:=by rw[←hfl];exact List.mem_map.2 ⟨f,hf,rfl⟩
     have:=(List.all_eq_true.1 hfo) _ hm
     exact Option.isSome_iff_exists.1 this
    obtain⟨q,hq,hq2⟩:=z8j (P:=P) g.W fs.toList (fun f hf=>by obtain⟨fd,hfd⟩:=hfield f hf;exact⟨_,(hcx.ty _ _ hfd).sizeOf g.W⟩)
    have hpl:∀(f off ft:Nat) (fd:TD),td.fields[f]? =some (off,ft)→look ft cx.ty=some fd→q[f]? =some (off,fd.size):=by
     intro f off ft fd hf hfd
     rw[←hfl]at hf
     simp only[Qg6,Qj3]at hf
     obtain⟨x,hx,e⟩:=hf
     cases e
     exact hq2 f x fd.size hx ((hcx.ty _ _ hfd).sizeOf g.W)
    obtain⟨cells',e1,e2⟩:=y9r (place:=fun i=>q[i]?) hpl _ _ _ _ z.cells _ hsz hin (by rw[hzc];exact z7k td.zero) hcs
    refine .of_run (u:=.agg cells') (W':=g.W) ?_ (q0m hm (by simp only[Den];exact⟨cells'.toList,by simp,e2⟩))
    have hpe:(parts.map fun(x:Nat×Operand)=>(x.1,ρ x.2)).toList=(parts.toList.map (·.1)).zip vs:=by
     rw[←hv,q8j]
     simp
    have hq':(fs.mapM (fun f=>do pure (f.offset,←sizeOf f.type):Field→Sem (Nat×Nat))).run P g.W=.ok q.toArray g.W:=by
     rw[Array.mapM_eq_mapM_toList]
     simp only[bind_pure_comp]at hq
     simp[hq]
    simp only[bind_pure_comp]at hq'
    simp[execOp,hop,Instr.build,hz,run_underlying hu,hq',Result.andThen]
    have e1':Instr.fill (fun x=>q[x]?) z.cells (List.map (fun x=>(x.1,ρ x.2)) parts.toList)=some cells':=by
     rw[←e1,←hpe]
     simp
    rw[e1']
    simp
   ·cases hc
 ·cases hc
theorem u0z:∀{l m:List Nat},eqL l m=true→l=m
 |[],[],_=>rfl
 |a::l,b::m,h=>by simp only[eqL,Qa2]at h;rw[Qb0 h.1,u0z h.2]
 |[],_::_,h=>by cases h
 |_::_,[],h=>by cases h
theorem j7z (size:Nat):∀(us:List Value) (k:Nat) (cells:Array Value),(∀u∈us,u.cells.size=size)→(k+us.length)*size=cells.size→
 ∃cells':Array Value,Instr.fill (fun i=>some (i*size,size)) cells ((List.range' k us.length).zip us)=some cells'∧cells'.toList=cells.toList.take (k*size)++us.flatMap (fun u=>u.cells.toList)
 |[],k,cells,_,h=>⟨cells,by simp[Instr.fill],by
  simp at h
  rw[h,List.flatMap_nil,Qf5,Qd6 (by simp)]⟩
 |u::us,k,cells,ho,h=>by
  have h1:=ho u Qb4
  simp only[Qa8]at h
  have hm:(k+1)*size≤cells.size:=by rw[←h];exact Qk1 _ (by omega)
  have hm':k*size+size=(k+1)*size:=by rw[Qk5,Qq7]
  obtain⟨c1,e1,e2,e3⟩:=j9u (place:=fun i=>some (i*size,size)) (rest:=(List.range' (k+1) us.length).zip us) (v:=u) (i:=k) (cells:=cells) rfl h1 (by rw[h1];omega)
  obtain⟨c2,e4,e5⟩:=j7z size us (k+1) c1 (fun x hx=>ho x (Qb7 _ hx)) (by rw[e2,←h];congr 1;omega)
  refine⟨c2,?_,?_⟩
  ·rw[Qa8,List.range'_succ,Qh5,e3,e4]
  ·rw[e5,e1,q7s _ _ _ (by simp[h1];omega)]
   have hl:(cells.toList.take (k*size)++u.cells.toList).length=(k+1)*size:=by
    simp[h1]
    omega
   rw[Qr4 hl,Ql9,Qc4]
theorem k5o {k:Nat} {cs:List IV} {a:LD} (h:LD.one k cs=some a):a.len=1∧a.st=cs.length∧∀(W:World) (G:Nat→Prop) (j:Nat) (y:IV) (u:Value),cs[j]? =some y→Rep W G y u→Rep W G (a.cell 0 j) u:=by
 have hnil:∀(W:World) (G:Nat→Prop) (l:LD) (u:Value),l.len=0→Rep W G (.val (.slice none 0 0)) u→Rep W G (.ls l) u:=by
  intro W G l u hl hr
  have:u=.slice none 0 0:=by
   generalize hy:IV.val (.slice none 0 0)=y at hr
   cases hr with
   |val v=>cases hy;rfl
   |nil _ _ _ _=>cases hy
   |ls _ _ _ _ _ _ _ _ _ _=>cases hy
  rw[this]
  exact .nil l none 0 hl
 unfold LD.one at h
 split at h
 all_goals first|cases h|skip
 all_goals
  refine⟨rfl,rfl,fun W G j y u hy hr=>?_⟩
  rcases j with _|_|_|_|j
  all_goals first
   |(simp at hy;done)
   |(simp at hy;subst hy;exact hr)
   |(simp at hy;subst hy;exact hnil _ _ _ _ rfl hr)
theorem x7a {g1:Gh} (hle:g.le g1):∀{xs:List AV} {cs:List IV} {us:List Value},x5p hp xs=some cs→q0e g xs us→(∀r∈q6l xs,∀e l,hp r=some (.row e l)→Rep g1.W g1.G (.ls l) (g.β r))→
 cs.length=xs.length∧∀(j:Nat) (y:IV),cs[j]? =some y→∃u,us[j]? =some u∧Rep g1.W g1.G y u
 |[],cs,us,h,_,_=>by cases h;exact⟨rfl,fun j y h=>by simp at h⟩
 |x::xs,cs,us,h,hd,ho=>by
  unfold x5p at h
  split at h
  ·rename_i y m hy hm
   cases h
   simp only[q0e]at hd
   obtain⟨u,us',rfl,h1,h2⟩:=hd
   obtain⟨q1,q2⟩:=x7a hle hm h2 (fun r hr=>ho r (by simp only[q6l,Qf4];exact .inr hr))
   refine⟨by simp[q1],fun j z hz=>?_⟩
   rcases j with _|j
   ·simp at hz
    subst hz
    refine⟨u,rfl,?_⟩
    unfold v1h at hy
    split at hy
    ·cases hy
     simp only[Den]at h1
     exact hle.rep h1
    ·rename_i r
     split at hy
     ·rename_i e l hr
      cases hy
      simp only[Den]at h1
      rw[h1.2.1]
      exact ho r (by simp[q6l,AV.refs]) e l hr
     ·cases hy
    ·cases hy
   ·exact q2 j z (by simpa using hz)
  ·cases h
theorem k9z {g1:Gh} (hle:g.le g1) {k:Nat}:∀{ins:List AV} {us:List Value} {l:LD},u8o hp k ins=some l→q0e g ins us→(∀r∈z2l ins,∀e l,hp r=some (.row e l)→Rep g1.W g1.G (.ls l) (g.β r))→ins≠[]→
 us.length=l.len∧(∀u∈us,u.cells.size=l.st)∧∀i j,i<l.len→j<l.st→i*l.st+j<(us.flatMap fun u=>u.cells.toList).length∧Rep g1.W g1.G (l.cell i j) ((us.flatMap fun u=>u.cells.toList).getD (i*l.st+j) undef)
 |[],us,l,_,_,_,hne=>absurd rfl hne
 |x::xs,us,l,h,hd,ho,_=>by
  unfold u8o at h
  cases hone:x.cells.all AV.one with
  |false=>rw[hone]at h;cases h
  |true=>
   rw[hone]at h
   simp only[cond_true]at h
   split at h
   ·rename_i cs hcs
    split at h
    ·rename_i a b ha hb
     simp only[q0e]at hd
     obtain⟨u,us',rfl,h1,h2⟩:=hd
     have hcl:=z8u hone h1
     have hoff1:∀r∈q6l x.cells,r∈z2l (x::xs):=by
      intro r hr
      cases x with
      |row k=>simp[AV.cells,q6l,AV.refs]at hr;subst hr;simp[z2l]
      |agg ys=>simp only[AV.cells]at hr;simp only[z2l,Qf4];exact .inl hr
      |im y=>simp[AV.cells,q6l,AV.refs]at hr
      |pto y=>simp[AV.cells,q6l,AV.refs]at hr
      |_=>simp[AV.cells,x5p,v1h]at hcs
     have hoff2:∀r∈z2l xs,r∈z2l (x::xs):=by
      intro r hr
      cases x with
      |row k=>simp only[z2l];exact Qb7 _ hr
      |agg ys=>simp only[z2l,Qf4];exact .inr hr
      |_=>simpa only[z2l]using hr
     obtain⟨q1,q2⟩:=x7a hle hcs hcl (fun r hr=>ho r (hoff1 r hr))
     obtain⟨o1,o2,o3⟩:=k5o ha
     obtain⟨a1,a2,a2',a3,a4⟩:=j5o h
     have hcu:u.cells.toList.length=a.st:=by rw[hcl.length,←q1,o2]
     have hcell:∀j,j<a.st→Rep g1.W g1.G (a.cell 0 j) (u.cells.toList.getD j undef):=by
      intro j hj
      have hj':j<cs.length:=by omega
      obtain⟨w,hw,hr⟩:=q2 j _ (Qa0 hj')
      have:u.cells.toList.getD j undef=w:=by rw[Qa1,hw];rfl
      rw[this]
      exact o3 _ _ j _ _ (Qa0 hj') hr
     have hrest:us'.length=b.len∧(∀u∈us',u.cells.size=l.st)∧∀i j,i<b.len→j<l.st→i*l.st+j<(us'.flatMap fun u=>u.cells.toList).length∧Rep g1.W g1.G (b.cell i j) ((us'.flatMap fun u=>u.cells.toList).getD (i*l.st+j) undef):=by
      cases xs with
      |nil=>
       have hus:us'=[]:=by simpa[q0e]using h2
       subst hus
       have hb0:b.len=0:=by
        unfold u8o LD.none at hb
        split at hb<;>cases hb<;>rfl
       exact⟨by simp[hb0],fun u hu=>by simp at hu,fun i j hi _=>by omega⟩
      |cons y ys=>
       have:=k9z hle hb h2 (fun r hr=>ho r (hoff2 r hr)) (by simp)
       rw[a2,←a2']
       exact this
     obtain⟨r1,r2,r3⟩:=hrest
     refine⟨by simp[a1,o1,r1];omega,fun w hw=>?_,fun i j hi hj=>?_⟩
     ·rcases List.mem_cons.1 hw with rfl|hw
      ·rw[a2,←hcu,Qf0]
      ·exact r2 w hw
     ·rw[a1,o1]at hi
      rw[Ql9,Qa3]
      rcases i with _|i
      ·rw[Nat.zero_mul,Qg7]
       rw[a2]at hj
       refine⟨by omega,?_⟩
       rw[a3 0 j (by omega),q3p _ _ _ _ (by omega)]
       exact hcell j hj
      ·obtain⟨s1,s2⟩:=r3 i j (by omega) hj
       have he:(i+1)*l.st+j=u.cells.toList.length+(i*l.st+j):=by rw[hcu,Qk5,Qq7,a2];omega
       rw[he]
       refine⟨by omega,?_⟩
       rw[show i+1=a.len+i by omega,a4 i j,q3m]
       exact s2
    ·cases h
   ·cases h
theorem z6u (hm:MOk w0 G0 g H) (r:Nat):MOk w0 G0 g (upd H r none):=by
 have hupd:∀x o,upd H r none x=some o→H x=some o:=by
  intro x o hx
  unfold upd at hx
  by_cases e':x=r
  ·subst e';rw[q6x]at hx;cases hx
  ·rw[q4x e']at hx;exact hx
 exact⟨fun x o hx=>hm.ok x o (hupd x o hx),fun x x' o o' b hx hx'=>hm.sep x x' o o' b (hupd x o hx) (hupd x' o' hx'),fun x o b hx=>hm.own x o b (hupd x o hx),hm.gb,hm.bel,hm.anc⟩
theorem j7i:∀(rs:List Nat) {g:Gh} {H:Nat→Option q0d},MOk w0 G0 g H→
 ∃g':Gh,g'.W=g.W∧g'.β=g.β∧g'.U=g.U∧g.le g'∧MOk w0 G0 g' (q2e H (rs.map fun r=>(r,none)))∧∀r∈rs,∀e l,H r=some (.row e l)→Rep g'.W g'.G (.ls l) (g.β r)
 |[],g,H,hm=>⟨g,rfl,rfl,rfl,Gh.le.refl g,hm,fun r hr=>by simp at hr⟩
 |r::rs,g,H,hm=>by
  have key:∃g':Gh,g'.W=g.W∧g'.β=g.β∧g'.U=g.U∧g.le g'∧MOk w0 G0 g' (upd H r none)∧∀e l,H r=some (.row e l)→Rep g'.W g'.G (.ls l) (g.β r):=by
   cases hr:H r with
   |none=>exact⟨g,rfl,rfl,rfl,Gh.le.refl g,z6u hm r,fun e l h=>by cases h⟩
   |some o=>
    cases o with
    |box cs=>exact⟨g,rfl,rfl,rfl,Gh.le.refl g,z6u hm r,fun e l h=>by cases h⟩
    |other b o=>exact⟨g,rfl,rfl,rfl,Gh.le.refl g,z6u hm r,fun e l h=>by cases h⟩
    |mset ks=>exact⟨g,rfl,rfl,rfl,Gh.le.refl g,z6u hm r,fun e l h=>by cases h⟩
    |mfun ks cs=>exact⟨g,rfl,rfl,rfl,Gh.le.refl g,z6u hm r,fun e l h=>by cases h⟩
    |row e l=>
     obtain⟨g',h1,h2,h3,h4,h5,h6⟩:=k1g hm hr
     exact⟨g',h1,h2,h3,h4,h5,fun e' l' h=>by cases h;exact h6⟩
  obtain⟨g1,h1,h2,h3,h4,h5,h6⟩:=key
  obtain⟨g2,k1,k2,k3,k4,k5,k6⟩:=j7i rs h5
  refine⟨g2,k1.trans h1,k2.trans h2,k3.trans h3,h4.trans k4,k5,fun x hx e l hl=>?_⟩
  by_cases hxr:x=r
  ·subst hxr
   exact k4.rep (h6 e l hl)
  ·rcases List.mem_cons.1 hx with hx|hx
   ·exact absurd hx hxr
   ·have:=k6 x hx e l (by unfold upd;rw[q4x hxr];exact hl)
    rwa [h2]at this
theorem j0k (hcx:q1c P cx) (hhp:∀r o,hp r=some o→H r=some o) (hm:MOk w0 G0 g H) (hn:¬g.U nm) (hin:q0e g ins vs) {t n:Nat} {parts:Array (Nat×Operand)} (hc:z0x cx nm t n (parts.toList.map (·.1)) hp ins=some (ps,v,hs)) (hop:o.op=.buildSlice t n parts)
 (hv:(parts.toList.map (·.2)).map ρ=vs):Eff P ρ o g.W (Good w0 G0 g nm (q2e H hs) v):=by
 unfold z0x at hc
 split at hc
 ·rename_i e sz by_ k he
  obtain⟨hu,ed,hled,hed,hsz,hs0,hb0,hby,hzl⟩:=z6c hcx he
  have hso:=hed.sizeOf g.W
  rw[hsz]at hso
  cases hn0:Nat.beq n 0 with
  |true=>
   have h0:=Qb0 hn0
   subst h0
   rw[hn0]at hc
   simp only[cond_true]at hc
   split at hc
   ·rename_i l hl hix
    cases hst:Nat.beq l.st sz with
    |false=>rw[hst]at hc;cases hc
    |true=>
    rw[hst]at hc
    simp only[cond_true,Option.some.injEq,Prod.mk.injEq]at hc
    obtain⟨rfl,rfl,rfl⟩:=hc
    have hst':=Qb0 hst
    have hpe:parts= #[]:=by simpa using hix
    have hll:l.len=0:=by
     unfold LD.none at hl
     split at hl<;>cases hl<;>rfl
    have hown:q5a (g.W.alloc (.cells #[] e)) e l.st (.slice (some ⟨g.W.heap.size,0,none⟩) 0 0) l.len []:=by
     rw[hll]
     unfold q5a
     split
     ·exact⟨Own.empty g.W e,rfl⟩
     ·exact⟨by omega,World.ownsRow_made g.W #[] 0 (Qc1 _) (Qc1 _) (by simp)⟩
    refine .of_run (u:=.slice (some ⟨g.W.heap.size,0,none⟩) 0 0) (W':=g.W.alloc (.cells #[] e)) ?_ (good_row (ob:=none) (xs:=[]) hm hn ⟨rfl,rfl,rfl,by simp,fun k hk _=>Below.heap_alloc g.W _ k hk⟩ (fun b hb=>by cases hb) (fun a ob hx'=>?_) hown (by rw[hll];exact Qc1 _) (fun i j hi _=>by omega) (fun b hb=>?_))
    ·simp[execOp,hop,hpe,Instr.buildSlice,run_underlying hu,hso,Instr.fill,newRow,Result.andThen,u1e]
    ·rcases x3q hx' with h|⟨ha1,ha3⟩
     ·exact .inl h
     ·exact .inr ⟨ha1,ha3,fun b hb=>by cases hb⟩
    ·right
     simp[q1k]at hb
     exact hb.symm
   ·cases hc
  |false=>
   rw[hn0]at hc
   simp only[cond_false]at hc
   cases hb:(eqL (parts.toList.map (·.1)) (List.range n)&&Nat.ble (n*sz) 16777216)with
   |false=>rw[hb]at hc;cases hc
   |true=>
    rw[hb]at hc
    simp only[cond_true]at hc
    simp only[Qa2]at hb
    have hix:=u0z hb.1
    have hn24:=Qc3 hb.2
    split at hc
    ·rename_i l hl
     cases hln:(Nat.beq l.len n&&Nat.beq l.st sz)with
     |false=>rw[hln]at hc;cases hc
     |true=>
      rw[hln]at hc
      simp only[cond_true]at hc
      simp only[Qa2]at hln
      have hln':=Qb0 hln.1
      have hst':=Qb0 hln.2
      have hnz:n≠0:=fun e=>by rw[e]at hn0;cases hn0
      have hne:ins≠[]:=by
       intro e0
       have h1:=hin.length
       rw[e0,←hv]at h1
       have h2:(parts.toList.map (·.1)).length=n:=by rw[hix];simp
       simp only[Qa9,Qb5]at h1 h2
       omega
      obtain⟨g1,k1,k2,k3,k4,k5,k6⟩:=j7i (z2l ins) hm
      obtain⟨h1,h2,h3⟩:=k9z (g1:=g1) k4 hl hin (fun r hr e' l' hr'=>k6 r hr e' l' (hhp r _ hr')) hne
      obtain⟨z,hz,hzc⟩:=hed.zero g.W
      obtain⟨cells',f1,f2⟩:=j7z sz vs 0 ((Array.range (n*sz)).map (z.cells[· %z.cells.size]!)) (fun u hu=>by rw[h2 u hu,hst']) (by simp;rw[h1,hln'])
      have hce:cells'=(vs.flatMap fun u=>u.cells.toList).toArray:=by
       apply Array.toList_inj.1
       rw[f2]
       simp
      subst hce
      have hbn:n≤n*sz:=Qh2 _ hs0
      have hrun:∀(hi':(parts.toList.map (·.1))=List.range n),(execOp ρ o).run P g.W=.ok (.value (.slice (some ⟨g.W.heap.size,0,none⟩) l.len l.len)) (g.W.alloc (.cells (vs.flatMap fun u=>u.cells.toList).toArray e)):=by
       intro hi'
       have hpe:(parts.map fun(x:Nat×Operand)=>(x.1,ρ x.2)).toList=(List.range' 0 vs.length).zip vs:=by
        have:(parts.toList.map (·.1)).zip vs=parts.toList.map fun x=>(x.1,ρ x.2):=by rw[←hv,q8j]
        rw[hix,←List.range_eq_range',show vs.length=n by omega]at*
        simp[this]
       have hpe2:List.map (fun(x:Nat×Operand)=>(x.1,ρ x.2)) parts.toList=(List.range' 0 vs.length).zip vs:=by rw[←hpe];simp
       have h24:¬n*sz>16777216:=by omega
       have hnz2:¬n*sz=0:=fun h=>by rcases Nat.mul_eq_zero.1 h with h|h<;>omega
       simp[execOp,hop,Instr.buildSlice,run_underlying hu,hso,h24,hnz2,hz,Result.andThen]
       rw[hpe2,f1]
       simp[newRow,hln']
      cases hby:u6b cx t l with
      |false=>
       rw[hby]at hc
       simp only[cond_false,Option.some.injEq,Prod.mk.injEq]at hc
       obtain⟨rfl,rfl,rfl⟩:=hc
       have hg:=k8f (nm:=nm) (t:=e) k5 (by unfold maxLen;omega) h3
       have hg2:Good w0 G0 g nm (q2e H (u4l ins)) (.im (.ls l)) (.slice (some ⟨g1.W.heap.size,0,none⟩) l.len l.len) (g1.W.alloc (.cells (vs.flatMap fun u=>u.cells.toList).toArray e)):=by
        obtain⟨g',a1,a2,a3,a4,a5⟩:=hg
        exact⟨g',a1,k4.trans a2,fun r=>by rw[a3,k3],a4,a5⟩
       rw[k1]at hg2
       exact .of_run (hrun hix) hg2
      |true=>
       rw[hby]at hc
       simp only[cond_true,Option.some.injEq,Prod.mk.injEq]at hc
       obtain⟨rfl,rfl,rfl⟩:=hc
       have hst1:l.st=1:=by
        unfold u6b at hby
        rw[Qd2]at hby
        rcases hby with hby|hby
        ·cases l<;>first|rfl|(simp[u9c]at hby)
        ·rw[Qa2]at hby
         exact Qb0 hby.1
       have hn1:¬g1.U nm:=fun hu=>hn (k3▸hu)
       have hlen:(vs.flatMap fun u=>u.cells.toList).length=l.len:=by
        have hone:∀us:List Value,(∀u∈us,u.cells.size=1)→(us.flatMap fun u=>u.cells.toList).length=us.length:=by
         intro us
         induction us with
         |nil=>intro _;rfl
         |cons u us ih=>
          intro hu
          rw[Ql9,Qa3,ih fun w hw=>hu w (by simp[hw])]
          have:=hu u (by simp)
          simp only[Qa8,Qf0]
          omega
        rw[hone vs (fun u hu=>by rw[h2 u hu,hst1]),h1]
       have hown:q5a (g1.W.alloc (.cells (vs.flatMap fun u=>u.cells.toList).toArray e)) e l.st (.slice (some ⟨g1.W.heap.size,0,none⟩) l.len l.len) l.len (vs.flatMap fun u=>u.cells.toList):=by
        rw[hst1]
        refine .of_one (.inr ⟨g1.W.heap.size,0,l.len,_,by rw[hlen],.mk0 (World.alloc_heap_new _ _),by omega,by unfold maxLen;omega,by simp only[Qi9,hlen];omega,fun j hj=>?_⟩) hlen
        rw[Qg7]
        simp[Qa0 hj]
       have hg:=good_row (W':=g1.W.alloc (.cells (vs.flatMap fun u=>u.cells.toList).toArray e)) (nm:=nm) (e:=e) (l:=l) (ob:=none) (xs:=vs.flatMap fun u=>u.cells.toList) (H':=q2e (q2e H (u4l ins)) [(nm,some (.row e l))]) (v:=.slice (some ⟨g1.W.heap.size,0,none⟩) l.len l.len) k5 hn1 ⟨rfl,rfl,rfl,by simp,fun k hk _=>Below.heap_alloc g1.W _ k hk⟩ (fun b hb=>by cases hb) (fun a ob hx'=>by
        rcases x3q hx' with h|⟨ha1,ha3⟩
        ·exact .inl h
        ·exact .inr ⟨ha1,ha3,fun b hb=>by cases hb⟩) hown (by unfold maxLen;omega) (fun i j hi hj=>by
        obtain⟨q1,q2⟩:=h3 i j hi hj
        exact q2) (fun b hb=>.inr (by simp[q1k]at hb;exact hb.symm))
       have hg2:Good w0 G0 g nm (q2e H (u4l ins++[(nm,some (.row e l))])) (.row nm) (.slice (some ⟨g1.W.heap.size,0,none⟩) l.len l.len) (g1.W.alloc (.cells (vs.flatMap fun u=>u.cells.toList).toArray e)):=by
        obtain⟨g',a1,a2,a3,a4,a5⟩:=hg
        exact⟨g',a1,k4.trans a2,fun r=>by rw[a3,k3],by rw[show q2e H (u4l ins++[(nm,some (.row e l))])=q2e (q2e H (u4l ins)) [(nm,some (.row e l))] by unfold q2e;rw[Qn6]];exact a4,a5⟩
       rw[k1]at hg2
       exact .of_run (hrun hix) hg2
    ·cases hc
 ·cases hc
theorem v3j {W:World} {G:Nat→Prop} {l:LD} {xs:List Value} (hst:l.st=1) (hc:∀i,i<l.len→Rep W G (l.cell i 0) (xs.getD i undef)) (i j:Nat) (hi:i<l.len) (hj:j<l.st):Rep W G (l.cell i j) (xs.getD (i*l.st+j) undef):=by
 have hj0:j=0:=by omega
 subst hj0
 rw[hst,Qf6,Qd9]
 exact hc i hi
theorem j4o (hcx:q1c P cx) (hm:MOk w0 G0 g H) (hn:¬g.U nm) (hin:q0e g ins vs) {t:Nat} {x y:Operand} (hc:z3r cx nm t ins=some (ps,v,hs)) (hps:q3n ps) (hop:o.op=.makeSlice t x y) (hv:[ρ x,ρ y]=vs):
 Eff P ρ o g.W (Good w0 G0 g nm (q2e H hs) v):=by
 unfold z3r at hc
 split at hc
 ·rename_i n c
  split at hc
  ·rename_i e by_ k he
   split at hc
   ·rename_i l hl
    obtain⟨hu,ed,hled,hed,hsz,hb0,hby,hzl⟩:=x1s hcx he
    rw[hled]at hc
    simp only at hc
    cases hzk:q9h k ed.zero with
    |false=>rw[hzk]at hc;cases hc
    |true=>
     rw[hzk]at hc
     simp only[Qm1,cond_false,Option.some.injEq,Prod.mk.injEq]at hc
     obtain⟨rfl,rfl,rfl⟩:=hc
     have hp:0≤n∧n≤c∧c.toNat*by_≤140737488355328:=hps
     obtain⟨p1,p2,p3⟩:=hp
     obtain⟨u,u',e1,hd,hd'⟩:=q4u hin
     rw[←hv]at e1
     cases e1
     have hx:=q0b hd
     have hy:=q0b hd'
     obtain⟨i,z,hi,hs1,hz,hzc,hb1⟩:=hed.info
     have hspec:∃zv,ed.zero=[zv]∧l.len=n.toNat∧l.st=1∧∀j,j<l.len→Rep g.W g.G (l.cell j 0) zv:=by
      unfold LD.zeros at hl
      cases hez:ed.zero with
      |nil=>rw[hez]at hzl;cases hzl
      |cons zv rest=>
       have hr0:rest=[]:=by rw[hez]at hzl;simpa using hzl
       subst hr0
       rw[hez]at hzk
       refine⟨zv,rfl,?_⟩
       split at hl
       ·cases hl
        refine⟨by simp[LD.len],rfl,fun j hj=>?_⟩
        simp only[LD.len,Qb1]at hj
        have hg:(List.replicate n.toNat (0:Int)).getD j 0=0:=by simp[List.getD,hj]
        simp only[LD.cell,hg]
        have:zv=.int .i64 0:=by
         cases zv with
         |int kd m=>cases kd<;>simp[q9h]at hzk;rw[hzk]
         |_=>simp[q9h]at hzk
        rw[this]
        exact .val _
       ·cases hl
        refine⟨by simp[LD.len],rfl,fun j hj=>?_⟩
        simp only[LD.len,Qb1]at hj
        have hg:(List.replicate n.toNat false).getD j false=false:=by simp[List.getD,hj]
        simp only[LD.cell,hg]
        have:zv=.bool false:=by
         cases zv with
         |bool m=>simp[q9h]at hzk;rw[hzk]
         |_=>simp[q9h]at hzk
        rw[this]
        exact .val _
       ·cases hl
     obtain⟨zv,hzv,hlen,hst,hrep⟩:=hspec
     have hcn:c.toNat≤c.toNat*by_:=Qh2 _ hb0
     have hzcell:z.cells= #[zv]:=by apply Array.toList_inj.1;rw[hzc,hzv]
     have hown:Own (g.W.alloc (.cells (Array.replicate c.toNat zv) e)) e (.slice (some ⟨g.W.heap.size,0,none⟩) n.toNat c.toNat) (List.replicate n.toNat zv):=by
      refine .inr ⟨g.W.heap.size,0,c.toNat,Array.replicate c.toNat zv,by simp,.mk0 (heap_alloc_new _ _),by simp;omega,by unfold maxLen;omega,by simp,fun j hj=>?_⟩
      simp at hj
      have hj':j<c.toNat:=by omega
      simp[hj,hj']
     have hr0:∀j,j<l.len→Rep g.W g.G (l.cell j 0) ((List.replicate n.toNat zv).getD j undef):=fun j hj=>by
      have:(List.replicate n.toNat zv).getD j undef=zv:=by rw[hlen]at hj;simp[List.getD,hj]
      rw[this]
      exact hrep j hj
     have hr2:q5a (g.W.alloc (.cells (Array.replicate c.toNat zv) e)) e l.st (.slice (some ⟨g.W.heap.size,0,none⟩) n.toNat c.toNat) l.len (List.replicate n.toNat zv):=by rw[hst];exact .of_one hown (by simp[hlen])
     have hby':i.bytes=by_:=by rw[hb1,hby]
     refine .of_run (u:=.slice (some ⟨g.W.heap.size,0,none⟩) n.toNat c.toNat) (W':=g.W.alloc (.cells (Array.replicate c.toNat zv) e)) ?_ (good_row (ob:=none) hm hn ⟨rfl,rfl,rfl,by simp,fun k hk _=>Below.heap_alloc g.W _ k hk⟩ (fun b hb=>by cases hb) (fun a ob hx'=>?_) hr2 (by rw[hlen];unfold maxLen;omega) (v3j hst hr0) (fun b hb=>?_))
     ·have hw:IntKind.i64.wrap c=c:=IntWalk.i64_in c (by omega)
      have hwn:IntKind.i64.wrap n=n:=IntWalk.i64_in n (by omega)
      have e0:¬(n<0):=by omega
      have e3:¬(c<n):=by omega
      have e1:¬(c<0):=by omega
      have e2:¬((by_:Int)*c>281474976710656):=by
       have:((c.toNat*by_:Nat):Int)=by_*c:=by rw[Qr8,Int.toNat_of_nonneg (by omega),Qr3]
       omega
      have hrow:Array.map (fun j=>z.cells[j%z.cells.size]!) (Array.range c.toNat)=Array.replicate c.toNat zv:=by
       apply Array.ext
       ·simp
       ·intro j h1 h2
        simp[hzcell,Nat.mod_one]
      have hso:=hed.sizeOf (P:=P) g.W
      rw[hsz]at hso
      have hti:(typeInfo e).run P g.W=.ok i g.W:=by simp[typeInfo,hi]
      have haq:∀m,(askRoom m).run P g.W=.ok () g.W:=by
       intro m
       unfold askRoom
       split<;>simp[Sem.run,mark]
      by_cases hc0:c.toNat=0
      ·obtain rfl:c=0:=by omega
       obtain rfl:n=0:=by omega
       simp[execOp,hop,hx,hy,Instr.makeSlice,run_underlying hu,asInt,asIntOf,hti,hw,haq,hso,newRow,Result.andThen,u1e]
      ·have hzz:(zeroValue e).run P g.W=.ok z g.W:=by simp[zeroValue,typeInfo,hi,hz]
       simp[execOp,hop,hx,hy,Instr.makeSlice,run_underlying hu,asInt,asIntOf,hti,hw,hwn,hby',haq,hso,newRow,Result.andThen,e0,e1,e2,e3,hc0,hzz]
       rw[hrow]
     ·rcases x3q hx' with h|⟨ha1,ha3⟩
      ·exact .inl h
      ·exact .inr ⟨ha1,ha3,fun b hb=>by cases hb⟩
     ·right
      simp[q1k]at hb
      exact hb.symm
   ·cases hc
  ·cases hc
 ·cases hc
end
end
end Go.Proofs.YteikjpbbhopkaaaGreatDoor.En
