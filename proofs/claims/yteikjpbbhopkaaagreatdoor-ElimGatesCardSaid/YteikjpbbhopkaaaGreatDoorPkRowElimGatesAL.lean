/- Lemmas and contracts for the row. -/
import Derived.Test.YteikjpbbhopkaaaGreatDoorPkRowElimGatesAB
import Derived.Test.YteikjpbbhopkaaaGreatDoorProg
import Derived.Lib.Hide
import Derived.Shelf.SlIter.Collect
set_option linter.unusedVariables false
set_option linter.unusedSimpArgs false
set_option linter.unnecessarySimpa false
namespace Go.Proofs.YteikjpbbhopkaaaGreatDoor.En
open Go Go.RowKit
def x6x:ItF
 |[.pto [.ls (.undos u)]]=>some (u.length≤maxLen,u.length,fun i=>[.int ((u.length:Int)-1-(i:Int)),.agg [.int (u.getD (u.length-1-i) (0,[])).1,.intss (u.getD (u.length-1-i) (0,[])).2]])
 |_=>none
set_option maxRecDepth 100000 in
set_option maxHeartbeats 1000000 in
theorem u9o {G:Nat→Prop} {W:World} (hG:∀b,G b→b<W.heap.size) (v0 v1:Nat→Value) (n:Nat) (A:Option Addr) (cp p1 o1:Nat)
 (h1:W.cell? ⟨p1,o1,none⟩=some (.slice A n cp)) (g1:G p1)
 (hA:∀k,k<n→∃b off,A=some ⟨b,off,none⟩∧G b∧W.cell? ⟨b,off+k*2,none⟩=some (v0 k)∧W.cell? ⟨b,off+k*2+1,none⟩=some (v1 k)) (hl:n≤maxLen):
 u1p Tryz.prog 57 #[.pointer (some ⟨p1,o1,none⟩)] (KRG G) n (fun i=> #[.int .i64 ((n:Int)-1-(i:Int)),.agg #[v0 (n-1-i),v1 (n-1-i)]]) W:=by
 intro l J Jx Z W1 hKR hJs hJxs hY h0
 unfold maxLen at hl
 have HC1:=Lib.hid (fun(W':World) (h:KRG G W W')=>(World.cell?_of_block (a:=⟨p1,o1,none⟩) (h p1 g1)).trans h1)
 have HA:=Lib.hid (fun k (hk:k<n) (W':World) (h:KRG G W W')=>by
  obtain⟨b,off,e,hb,hc,hd⟩:=hA k hk
  exact(⟨b,off,e,(World.cell?_of_block (a:=⟨b,off+k*2,none⟩) (h b hb)).trans hc,(World.cell?_of_block (a:=⟨b,off+k*2+1,none⟩) (h b hb)).trans hd⟩:∃b off,A=some ⟨b,off,none⟩∧W'.cell? ⟨b,off+k*2,none⟩=some (v0 k)∧W'.cell? ⟨b,off+k*2+1,none⟩=some (v1 k)))
 have HY:=Lib.hid hY
 have HK:=Lib.hid hKR
 have H0:=Lib.hid h0
 clear h1 hA hJs hY hJxs h0 hKR
 refine q2p.1 (callsIn_of_wp (F:=FR none) (n:=3) Tryz.func57 rfl trivial ?_ rfl)
 simp only[Tryz.ntmps57,Qi9,Qa8,Qb5,Nat.reduceAdd,Nat.reduceSub,Qo8,Qo7,Qq0,Qp0,Qg8,Qc9]
 have hro:(FR none).round=none:=rfl
 have hc1:=HC1.out W1 HK.out
 gi_wp2_with fail
 clear hc1
 gi_loopw [3] (fun kv wr=>∃k:Nat,kv=.int .i64 ((n:Int)-1-(k:Int))∧k≤n∧KRG G W wr∧∃Z,J k Z wr) (fun kv _=>(intOf kv+1).toNat)
 case atStart=>exact⟨0,by go_num,Qc1 _,HK.out,_,H0.out⟩
 case round=>
  obtain⟨k,rfl,hk,hkr,Z2,hj⟩:=hrel
  have HKR:=Lib.hid hkr
  have HJ2:=Lib.hid hj
  clear hkr hj
  by_cases hlt:k<n
  ·obtain⟨m,hm⟩:∃m:Nat,m=n-1-k:=⟨_,rfl⟩
   obtain⟨b,off,rfl,hc0,hc2⟩:=HA.out m (by omega) wr HKR.out
   have hmi:(n:Int)-1-(k:Int)=(m:Int):=by omega
   have hc1:=HC1.out wr HKR.out
   have hyy:=HY.out k Z2 wr hlt HJ2.out
   simp only[←hm]at hyy
   rw[hmi]at hyy⊢
   obtain⟨fn,tmps,assign,body,hy,hR⟩:=hyy
   have HM:=Lib.hid hm
   have hmn:m<n:=by omega
   clear hm hmi
   gi_wp2_with fail
   refine hR.mono ?_
   rintro e w4 ⟨⟨rfl,hj4⟩|⟨rfl,hjx⟩,hk4,hz4,hs4⟩
   ·have HK4:=Lib.hid (k9o HKR.out hk4)
    have HJ5:=Lib.hid hj4
    clear hj4 hk4 hz4 hs4
    gi_wp2_with fail
    go_roundw
    case rel=>exact⟨k+1,by have:=HM.out;rw[show(n:Int)-1-((k+1:Nat):Int)=(m:Int)-1 by omega],hlt,HK4.out,_,HJ5.out⟩
    case measure=>simp[intOf]
   ·have HJX:=Lib.hid hjx
    clear hjx hk4 hz4 hs4
    gi_wp2_with fail
    refine bodyPost_ret (results_none rfl _ _ _) rfl ?_
    exact⟨⟨_,rfl⟩,.inr ⟨_,_,HJX.out⟩⟩
  ·obtain rfl:k=n:=by omega
   have hneg:(k:Int)-1-(k:Int)= -1:=by omega
   rw[hneg]
   clear hneg
   gi_wp2_with fail
   go_end0
   exact⟨⟨_,rfl⟩,.inl ⟨Z2,HJ2.out⟩⟩
theorem k7w:z2s Tryz.prog 57 x6x:=by
 refine⟨q0r Tryz.func57 (by kernel_rfl) rfl,fun W G caps vs p N el hG hgl hσ hp hd=>?_⟩
 unfold x6x at hσ
 split at hσ
 ·rename_i u
  injection hσ with hσ
  injection hσ with h1 h2
  injection h2 with h2 h3
  subst h1 h2 h3
  simp only[q0e,Den]at hd
  obtain⟨v1,vs1,rfl,⟨p1,o1,rfl,g1,hc1⟩,rfl⟩:=hd
  obtain⟨u1,hu1,hr1⟩:=hc1 0 (.ls (.undos u)) rfl
  have key:∃(A:Option Addr) (cp:Nat) (v0 v1:Nat→Value),u1=.slice A u.length cp∧(∀k,k<u.length→∃b off,A=some ⟨b,off,none⟩∧G b∧W.cell? ⟨b,off+k*2,none⟩=some (v0 k)∧W.cell? ⟨b,off+k*2+1,none⟩=some (v1 k))∧
   ∀k,k<u.length→Rep W G (.int (u.getD k (0,[])).1) (v0 k)∧Rep W G (.ls (.intss (u.getD k (0,[])).2)) (v1 k):=by
   rcases hr1.cases_ls with⟨h0,A,cp,rfl⟩|⟨b,off,cp,z,rfl,_,_,hb,hcell,hrep⟩
   ·have h0':u.length=0:=h0
    exact⟨A,cp,fun _=>undef,fun _=>undef,by rw[h0'],fun k hk=>by omega,fun k hk=>by omega⟩
   ·refine⟨_,cp,fun i=>z i 0,fun i=>z i 1,rfl,fun k hk=>⟨b,off,rfl,hb,hcell k 0 hk (show 0<2 by omega),hcell k 1 hk (show 1<2 by omega)⟩,fun k hk=>⟨hrep k 0 hk (show 0<2 by omega),hrep k 1 hk (show 1<2 by omega)⟩⟩
  obtain⟨A,cp,v0,v1,rfl,hA,hv⟩:=key
  refine⟨fun i=> #[.int .i64 ((u.length:Int)-1-(i:Int)),.agg #[v0 (u.length-1-i),v1 (u.length-1-i)]],fun i hi=>?_,u9o hG v0 v1 u.length A cp p1 o1 hu1 g1 hA hp⟩
  have:=hv (u.length-1-i) (by omega)
  simp only[q0e,Den]
  exact⟨_,_,rfl,.val _,_,_,rfl,⟨[v0 (u.length-1-i),v1 (u.length-1-i)],rfl,_,_,rfl,this.1,_,_,rfl,this.2,rfl⟩,rfl⟩
 ·cases hσ
end Go.Proofs.YteikjpbbhopkaaaGreatDoor.En
