/- Appending a string's bytes, and strings: what the reader says is what the operation does. Plain lemmas; no condition beyond their own hypotheses. -/
import Derived.Test.YtbpbndlgfiammaaGreatDoorEngA
import Derived.Lib.AppendStr
set_option linter.unusedSimpArgs false
set_option linter.unusedVariables false
set_option linter.unnecessarySimpa false
namespace Go.Proofs.YtbpbndlgfiammaaGreatDoor.En
open Go Go.RowKit
section
variable {P : Program} (w : World)
theorem strCells_I (s : ByteArray) : Lib.strCells s = (bytesI s).map fun x => Value.int .u8 x := by
  unfold Lib.strCells bytesI
  rw [List.map_map]; rfl
theorem bytesI_len (s : ByteArray) : (bytesI s).length = s.size := by unfold bytesI; rw [List.length_map]; rfl
/-- a string's bytes onto a row of the call's own -/
theorem run_appendS {t tx ty e : TypeId} {ed : TD} (ht : P.underlying t = some (.slice e)) (htx : P.underlying tx = some .string) (hed : TyOk P e ed) (h1 : ed.size = 1) (hz1 : ed.zero.length = 1) (hb0 : 0 < ed.bytes) {v : Value} {xs : List Value} (hown : Own w e v xs) (s : ByteArray)
    (hbytes : (xs.length + s.size) * ed.bytes ≤ 140737488355328) :
    ∃ v' W', (Builtin.append_ #[t, tx] ty #[v, .string s]).run P w = .ok v' W' ∧ Own W' e v' (xs ++ Lib.strCells s) ∧ w.grownBy W' v.ownBlock ∧ ∀ b, v'.ownBlock = some b → v.ownBlock = some b ∨ b = w.heap.size := by
  obtain ⟨i, z, hi, hs, hz', hzc, hby⟩ := hed.info
  have hzs : z.cells.size = 1 := by rw [← Array.length_toList, hzc, hz1]
  have hsize : i.size = 1 := by rw [hs, h1]
  have hle : xs.length + s.size ≤ (xs.length + s.size) * ed.bytes := Nat.le_mul_of_pos_right _ hb0
  have h63 : xs.length + s.size ≤ maxLen := by unfold maxLen; omega
  have hlen : (Lib.strCells s).length = s.size := Lib.strCells_length s
  have hzl : ∀ m, (Builtin.zeroCells z.cells m).size = m := fun m => by unfold Builtin.zeroCells; simp [hzs]
  rcases hown with ⟨rfl, rfl⟩ | ⟨g, off, cap, cur, rfl, hg, hnc, hcmx, hfit, hcs⟩
  · by_cases h0 : s.size = 0
    · have hsc : Lib.strCells s = [] := List.eq_nil_of_length_eq_zero (by rw [hlen, h0])
      refine ⟨.slice none 0 0, w, ?_, by rw [hsc]; exact Own.nil w e, ⟨rfl, rfl, rfl, Nat.le_refl _, fun _ _ _ => rfl⟩, fun b hb => .inl hb⟩
      have hf := Lib.run_firstCells_string (P := P) w i.size s
      rw [h0] at hf
      simp [Builtin.append_, run_underlying ht, run_underlying htx, sizeOf, typeInfo, hi, Builtin.lenOf, h0, hf]
    · have hr := run_append_nil_string (P := P) w t tx ty e i z ht htx hi hz' s (by omega) (by unfold maxLen at h63; simp at h63; omega) (by rw [hby]; simp at hbytes; omega)
      have hge := grownCap_ge w s.size 0 e
      have hcm := grownCap_le_maxLen w s.size 0 e (by simpa using h63)
      refine ⟨_, _, hr, .inr ⟨w.heap.size, 0, _, _, by simp [hlen], .mk0 (heap_alloc_new w.drew _), by simpa [hlen] using hge, hcm, ?_, fun j hj => ?_⟩, ⟨rfl, rfl, rfl, by simp, fun k hk _ => Below.heap_alloc w.drew _ k hk⟩, fun b hb => .inr (by injection hb with hb; exact hb.symm)⟩
      · have : s.data.size = s.size := rfl
        rw [Array.size_append, Array.size_map, hzl]; omega
      · rw [List.nil_append, hlen] at hj
        have hj2 : j < s.data.size := hj
        rw [Nat.zero_add, Array.getElem?_append_left (by rw [Array.size_map]; exact hj2), Array.getElem?_map, Array.getElem?_eq_getElem hj2]
        simp [Lib.strCells]
  · have hcell : ∀ j, j < xs.length → w.cell? ⟨g, off + j, none⟩ = xs[j]? := fun j hj => by
      rw [hg.cell (off + j), hcs j hj, List.getElem?_eq_getElem hj]
    by_cases hroom : xs.length + s.size ≤ cap
    · have hcell2 : ∀ j, j < (Lib.strCells s).length → (w.cell? ⟨g, off + xs.length + 0 + j, none⟩).isSome = true := fun j hj => by
        rw [hlen] at hj
        rw [hg.cell, Array.getElem?_eq_getElem (by omega)]; rfl
      have hfz : ∀ j, j < (Lib.strCells s).length → w.frozen? ⟨g, off + xs.length + 0 + j, none⟩ = false := fun j hj => hg.frozen (by rw [hlen] at hj; omega)
      have hst := run_storeCells_cells (P := P) g (off + xs.length) (Lib.strCells s) 0 w hcell2 hfz (Lib.strCells_oneCell s)
      rw [Nat.add_zero, RowAt.store _ _ cur w hg (by rw [hlen]; omega)] at hst
      have hf := Lib.run_firstCells_string (P := P) w 1 s
      have hr : (Builtin.append_ #[t, tx] ty #[.slice (some ⟨g, off, none⟩) xs.length cap, .string s]).run P w = .ok (.slice (some ⟨g, off, none⟩) (xs.length + s.size) cap) (w.setRow g (cur.toList.take (off + xs.length) ++ Lib.strCells s ++ cur.toList.drop (off + xs.length + (Lib.strCells s).length)).toArray) := by
        simp [Builtin.append_, run_underlying ht, run_underlying htx, sizeOf, typeInfo, hi, hsize, Builtin.lenOf, hroom, hf, Addr.add_lit, hst]
      refine ⟨_, _, hr, .inr ⟨g, off, cap, _, by rw [List.length_append, hlen], hg.setRow (by simp [hlen]; omega), by rw [List.length_append, hlen]; omega, hcmx, by simp [hlen]; omega, fun j hj => ?_⟩, ⟨rfl, rfl, rfl, by simp, fun k _ hk => setRow_other w g k _ (fun e => hk (by simp [Value.ownBlock, e]))⟩, fun b hb => .inl hb⟩
      simp only [List.length_append, hlen] at hj
      simp only [List.getElem?_toArray]
      rw [List.append_assoc, List.getElem?_append]
      by_cases hjx : j < xs.length
      · rw [if_pos (by simp; omega), List.getElem?_take, if_pos (by omega)]
        rw [List.getElem_append_left hjx, ← hcs j hjx]
        simp
      · rw [if_neg (by simp; omega), List.getElem?_append_left (by simp [hlen]; omega), List.getElem_append_right (by omega)]
        have : off + j - (cur.toList.take (off + xs.length)).length = j - xs.length := by simp; omega
        rw [this, List.getElem?_eq_getElem (by rw [hlen]; omega)]
    · have hold : ∀ j u, xs[j]? = some u → w.cell? ((⟨g, off, none⟩ : Addr).add j) = some u := fun j u hu => by
        obtain ⟨hj, rfl⟩ := List.getElem?_eq_some_iff.1 hu
        rw [add_mk]
        exact (hcell j hj).trans (List.getElem?_eq_getElem hj)
      have hr := Lib.run_append_grow_string (P := P) w t tx ty e i z ht htx hi hz' ⟨g, off, none⟩ xs.length cap xs (by rw [hsize, Nat.mul_one]) hold s (by omega) (by unfold maxLen at h63; omega) (growslice_fits (by omega) (by rw [hby]; exact hbytes))
      have hge := grownCap_ge w (xs.length + s.size) cap e
      have hcm := grownCap_le_maxLen w (xs.length + s.size) cap e h63
      refine ⟨_, _, hr, .inr ⟨w.heap.size, 0, _, _, by rw [List.length_append, hlen], .mk0 (heap_alloc_new w.drew _), by rw [List.length_append, hlen]; exact hge, hcm, ?_, fun j hj => ?_⟩, ⟨rfl, rfl, rfl, by simp, fun k hk _ => Below.heap_alloc w.drew _ k hk⟩, fun b hb => .inr (by injection hb with hb; exact hb.symm)⟩
      · rw [Array.size_append, Array.size_append, List.size_toArray, List.size_toArray, hzl, hlen]; omega
      · have hj' := hj
        rw [List.length_append] at hj'
        rw [Nat.zero_add, Array.getElem?_append_left (by rw [Array.size_append, List.size_toArray, List.size_toArray]; exact hj'), show xs.toArray ++ (Lib.strCells s).toArray = (xs ++ Lib.strCells s).toArray by simp, List.getElem?_toArray, List.getElem?_eq_getElem hj]
end
section
variable {P : Program} {cx : Cx} {w0 : Base} {G0 : Nat → Prop} {g : Gh} {H hp : Nat → Option AObj} {nm : Nat} {ins : List AV} {vs : List Value} {ps : List Prop} {v : AV} {hs : List (Nat × Option AObj)} {ρ : Operand → Value} {o : Oper}
theorem isStr_un (hcx : CxOk P cx) {t : Nat} (h : isStr cx t = true) : P.underlying t = some .string := by
  unfold isStr at h
  split at h
  · rename_i td h1
    obtain ⟨dd, hu, hd⟩ := (hcx.ty t td h1).desc
    rw [hu, desc_string hd (Nat.eq_of_beq_eq_true h)]
  · cases h
theorem strs_rep {xs : List Int} {z : ByteArray} {ys : List Value} {W : World} {G : Nat → Prop} (hyl : ys.length = xs.length) (hy : ∀ i, i < xs.length → Rep W G (.val (.int .u8 (xs.getD i 0))) (ys.getD i undef)) :
    ∀ i j, i < (LD.bytes (xs ++ bytesI z)).len → j < (LD.bytes (xs ++ bytesI z)).st → Rep W G ((LD.bytes (xs ++ bytesI z)).cell i j) ((ys ++ Lib.strCells z).getD (i * (LD.bytes (xs ++ bytesI z)).st + j) undef) := fun i j hi hj => by
  have hj0 : j = 0 := by have : j < 1 := hj
                         omega
  have hi' : i < (xs ++ bytesI z).length := hi
  subst hj0
  show Rep W G (.val (.int .u8 ((xs ++ bytesI z).getD i 0))) ((ys ++ Lib.strCells z).getD (i * 1 + 0) undef)
  rw [Nat.mul_one, Nat.add_zero, strCells_I]
  by_cases hlt : i < xs.length
  · have e1 : (xs ++ bytesI z).getD i 0 = xs.getD i 0 := by simp [List.getD, List.getElem?_append_left hlt]
    have e2 : (ys ++ (bytesI z).map fun x => Value.int .u8 x).getD i undef = ys.getD i undef := by simp [List.getD, List.getElem?_append_left (show i < ys.length by omega)]
    rw [e1, e2]
    exact hy i hlt
  · obtain ⟨q, rfl⟩ : ∃ q, i = xs.length + q := ⟨i - xs.length, by omega⟩
    rw [List.length_append] at hi'
    have hq : q < (bytesI z).length := by omega
    have e1 : (xs ++ bytesI z).getD (xs.length + q) 0 = (bytesI z).getD q 0 := by simp [List.getD, List.getElem?_append_right (show xs.length ≤ xs.length + q by omega)]
    have e2 : (ys ++ (bytesI z).map fun x => Value.int .u8 x).getD (xs.length + q) undef = .int .u8 ((bytesI z).getD q 0) := by
      rw [← hyl]
      simp [List.getD, List.getElem?_append_right (show ys.length ≤ ys.length + q by omega), List.getElem?_eq_getElem hq]
    rw [e1, e2]
    exact .val _
theorem eff_appendS (hcx : CxOk P cx) (hhp : ∀ r o, hp r = some o → H r = some o) (hm : MOk w0 G0 g H) (hn : ¬ g.U nm) (hin : DenL g ins vs) {t t2 : Nat} (hc : cAppendS cx nm t t2 hp ins = some (ps, v, hs)) (hps : allP ps)
    {c : Call} {x y : Operand} (hop : o.op = .call c) (hb : c.callee = .builtin .append) (ht : c.argTypes = #[t, t2]) (ha : c.args = #[x, y]) (hv : [ρ x, ρ y] = vs) : Eff P ρ o g.W (Good w0 G0 g nm (updH H hs) v) := by
  have hrun : ∀ v' W', (Builtin.append_ #[t, t2] o.type #[ρ x, ρ y]).run P g.W = .ok v' W' → (execOp ρ o).run P g.W = .ok (.value v') W' := by
    intro v' W' h
    simp [execOp, hop, resolve, hb, ht, ha, invoke, builtin, h, Result.andThen]
  unfold cAppendS at hc
  split at hc
  · rename_i r z
    split at hc
    · rename_i e by_ k e' xs he hr
      cases hbe : (Nat.beq e e' && isStr cx t2) with
      | false => rw [hbe] at hc; cases hc
      | true =>
        rw [hbe] at hc
        simp only [cond_true, Option.some.injEq, Prod.mk.injEq] at hc
        obtain ⟨rfl, rfl, rfl⟩ := hc
        simp only [Bool.and_eq_true] at hbe
        have := Nat.eq_of_beq_eq_true hbe.1
        subst this
        have hstr := isStr_un hcx hbe.2
        obtain ⟨hu, ed, hled, hed, hsz, hb0, hby, hzl⟩ := elem1_of hcx he
        obtain ⟨u, u', e1, hd, hd'⟩ := denL2 hin
        rw [← hv] at e1
        cases e1
        simp only [Den] at hd
        obtain ⟨hU, hx, _⟩ := hd
        have hy := den_val hd'
        have hH := hhp r _ hr
        obtain ⟨_, ys, ho, h2, h4⟩ := hm.ok r _ hH
        obtain ⟨ho1, hyl, hyc⟩ := row1_of (l := .bytes xs) rfl ho h4
        have hyl' : ys.length = xs.length := hyl
        have hp : (xs.length + z.size) * by_ ≤ 140737488355328 := hps
        obtain ⟨v', W', hr', o1, o2, o3⟩ := run_appendS (P := P) g.W (ty := o.type) hu hstr hed hsz hzl (by omega) ho1 z (by rw [hyl', hby]; exact hp)
        have hbk := own_blk ho1
        rw [← hbk] at o2
        have hor : OwnR W' e 1 v' (LD.bytes (xs ++ bytesI z)).len (ys ++ Lib.strCells z) := .of_one o1 (by rw [List.length_append, hyl', Lib.strCells_length]; show _ = (xs ++ bytesI z).length; rw [List.length_append, bytesI_len])
        refine .of_run (hrun v' W' ?_) (good_row (l := .bytes (xs ++ bytesI z)) (ob := blkOf (g.β r)) (xs := ys ++ Lib.strCells z) hm hn o2 (fun b hb => hm.own r _ b hH hb) (fun a ob hx' => ?_) hor ?_ (strs_rep hyl' hyc) (fun b hb => ?_))
        · rw [hx, hy]; exact hr'
        · rcases updH2 hx' with h | ⟨ha1, ha2, ha3⟩
          · exact .inl h
          · exact .inr ⟨ha1, ha3, fun b hb hb' => ha2 (hm.sep a r _ _ b ha3 hH hb' hb)⟩
        · show (xs ++ bytesI z).length ≤ maxLen
          rw [List.length_append, bytesI_len]
          have : xs.length + z.size ≤ (xs.length + z.size) * by_ := Nat.le_mul_of_pos_right _ (by omega)
          unfold maxLen
          omega
        · rw [own_blk o1] at hb
          rw [hbk]
          exact o3 b hb
    · cases hc
  · rename_i z
    split at hc
    · rename_i e by_ k he
      cases hbe : isStr cx t2 with
      | false => rw [hbe] at hc; cases hc
      | true =>
        rw [hbe] at hc
        simp only [cond_true, Option.some.injEq, Prod.mk.injEq] at hc
        obtain ⟨rfl, rfl, rfl⟩ := hc
        have hstr := isStr_un hcx hbe
        obtain ⟨hu, ed, hled, hed, hsz, hb0, hby, hzl⟩ := elem1_of hcx he
        obtain ⟨u, u', e1, hd, hd'⟩ := denL2 hin
        rw [← hv] at e1
        cases e1
        have hx := den_val hd
        have hy := den_val hd'
        have hp : z.size * by_ ≤ 140737488355328 := hps
        obtain ⟨v', W', hr', o1, o2, o3⟩ := run_appendS (P := P) g.W (ty := o.type) hu hstr hed hsz hzl (by omega) (Own.nil g.W e) z (by simp only [List.length_nil, Nat.zero_add]; rw [hby]; exact hp)
        have hor : OwnR W' e 1 v' (LD.bytes ([] ++ bytesI z)).len ([] ++ Lib.strCells z) := .of_one o1 (by rw [List.nil_append, Lib.strCells_length]; show _ = ([] ++ bytesI z).length; rw [List.nil_append, bytesI_len])
        have hrp := strs_rep (xs := []) (z := z) (ys := []) (W := g.W) (G := g.G) rfl (fun i hi => absurd hi (Nat.not_lt_zero _))
        rw [List.nil_append, List.nil_append] at hrp
        rw [List.nil_append, List.nil_append] at hor
        refine .of_run (hrun v' W' ?_) (good_row (l := .bytes (bytesI z)) (ob := none) (xs := Lib.strCells z) hm hn o2 (fun b hb => by cases hb) (fun a ob hx' => ?_) hor ?_ hrp (fun b hb => ?_))
        · rw [hx, hy]; exact hr'
        · rcases updH1 hx' with h | ⟨ha1, ha2⟩
          · exact .inl h
          · exact .inr ⟨ha1, ha2, fun b hb => by cases hb⟩
        · show (bytesI z).length ≤ maxLen
          rw [bytesI_len]
          have : z.size ≤ z.size * by_ := Nat.le_mul_of_pos_right _ (by omega)
          unfold maxLen
          omega
        · rw [own_blk o1] at hb
          rcases o3 b hb with h | h
          · cases h
          · exact .inr h
    · cases hc
  · cases hc
theorem eff_appendT (hcx : CxOk P cx) (hhp : ∀ r o, hp r = some o → H r = some o) (hm : MOk w0 G0 g H) (hn : ¬ g.U nm) (hin : DenL g ins vs) {t t2 : Nat} (hc : cAppendT cx nm t t2 hp ins = some (ps, v, hs)) (hps : allP ps)
    {c : Call} {x y : Operand} (hop : o.op = .call c) (hb : c.callee = .builtin .append) (ht : c.argTypes = #[t, t2]) (ha : c.args = #[x, y]) (hv : [ρ x, ρ y] = vs) : Eff P ρ o g.W (Good w0 G0 g nm (updH H hs) v) := by
  unfold cAppendT at hc
  split at hc
  · rename_i z hz
    rw [hc] at hz
    exact eff_appendZ hcx hhp hm hn hin hz hps hop hb ht ha hv
  · exact eff_appendS hcx hhp hm hn hin hc hps hop hb ht ha hv
theorem appendT_two {t t2 : Nat} (hc : cAppendT cx nm t t2 hp ins = some (ps, v, hs)) : ∃ x y, ins = [x, y] := by
  unfold cAppendT at hc
  split at hc
  · rename_i z hz
    unfold cAppendZ at hz
    split at hz
    · exact ⟨_, _, rfl⟩
    · cases hz
  · unfold cAppendS at hc
    split at hc
    · exact ⟨_, _, rfl⟩
    · exact ⟨_, _, rfl⟩
    · cases hc
theorem eff_lenT (hcx : CxOk P cx) (hm : MOk w0 G0 g H) (hin : DenL g ins vs) (hhp : ∀ r o, hp r = some o → H r = some o) {t : Nat} (hc : cLenS cx t ins = some (ps, v, hs)) {c : Call} {x : Operand} (hop : o.op = .call c) (hb : c.callee = .builtin .len) (ht : c.argTypes = #[t]) (ha : c.args = #[x]) (hv : [ρ x] = vs) :
    Eff P ρ o g.W (Good w0 G0 g nm (updH H hs) v) := by
    unfold cLenS at hc
    split at hc
    · rename_i z
      cases hs : isStr cx t with
      | false => rw [hs] at hc; cases hc
      | true =>
        rw [hs] at hc
        simp only [cond_true] at hc
        obtain ⟨rfl, rfl, rfl⟩ := yes_inj hc
        obtain ⟨u, e, hd⟩ := denL1 hin
        rw [← hv] at e
        cases e
        have hx := den_val hd
        have hu := isStr_un hcx hs
        refine .of_run (u := .int .i64 z.size) (W' := g.W) ?_ (good_same hm (den_val_mk _))
        simp [execOp, hop, resolve, hb, ht, ha, invoke, builtin, Builtin.len_, hx, run_underlying hu, goInt, Result.andThen]
    · cases hc
theorem bytesI_at {z : ByteArray} {i : Nat} (h : i < z.size) : z[i]?.map (fun b : UInt8 => (b.toNat : Int)) = some ((bytesI z).getD i 0) := by
  have h2 : i < z.data.size := h
  have h3 : z[i]? = some z[i] := getElem?_pos z i h
  rw [h3]
  have h4 : i < z.data.toList.length := by rw [Array.length_toList]; exact h2
  unfold bytesI
  simp only [Option.map_some, List.getD, List.getElem?_map, List.getElem?_eq_getElem h4, Option.getD_some]
  rfl
theorem eff_indexS (hcx : CxOk P cx) (hm : MOk w0 G0 g H) (hin : DenL g ins vs) {t : Nat} (hc : cIndexS cx t ins = some (ps, v, hs)) (hps : allP ps) {x y : Operand} (hop : o.op = .index t x y) (hv : [ρ x, ρ y] = vs) : Eff P ρ o g.W (Good w0 G0 g nm (updH H hs) v) := by
  unfold cIndexS at hc
  split at hc
  · rename_i z i
    cases hs : isStr cx t with
    | false => rw [hs] at hc; cases hc
    | true =>
      rw [hs] at hc
      simp only [cond_true] at hc
      obtain ⟨rfl, rfl, rfl⟩ := may_inj hc
      obtain ⟨u, u', e, hd, hd'⟩ := denL2 hin
      rw [← hv] at e
      cases e
      have hx := den_val hd
      have hy := den_val hd'
      have hu := isStr_un hcx hs
      have hp : 0 ≤ i ∧ i < z.size := hps
      have hb := bytesI_at (z := z) (i := i.toNat) (by omega)
      obtain ⟨b, hb1, hb2⟩ : ∃ b, z[i.toNat]? = some b ∧ (b.toNat : Int) = (bytesI z).getD i.toNat 0 := by
        cases hq : z[i.toNat]? with
        | none => rw [hq] at hb; cases hb
        | some b => rw [hq] at hb; exact ⟨b, rfl, by injection hb⟩
      refine .of_run (u := .int .u8 ((bytesI z).getD i.toNat 0)) (W' := g.W) ?_ (good_same hm (den_val_mk _))
      simp only [execOp, hop, hx, hy, Instr.index, asIntOf, Sem.run_bind, Sem.run_pure, Result.andThen_ok, run_underlying hu, if_pos hp.1, hb1, hb2]
  · cases hc
theorem eff_sliceT0 (hcx : CxOk P cx) (hm : MOk w0 G0 g H) (hin : DenL g ins vs) {t : Nat} {x : Operand} {lo hi mx : Option Operand} (hc : cSliceT0 cx t lo.isSome hi.isSome mx.isSome ins = some (ps, v, hs)) (hps : allP ps)
    (hop : o.op = .slice t x lo hi mx) (hv : (x :: (lo.toList ++ hi.toList ++ mx.toList)).map ρ = vs) : Eff P ρ o g.W (Good w0 G0 g nm (updH H hs) v) := by
  unfold cSliceT0 at hc
  split at hc
  · rename_i z hz
    rw [hc] at hz
    exact eff_slice hcx hm hin hz hps hop hv
  · unfold cSliceS at hc
    split at hc
    · rename_i z a _
      cases hs : (isStr cx t && !mx.isSome) with
      | false => rw [hs] at hc; cases hc
      | true =>
        rw [hs] at hc
        simp only [cond_true] at hc
        simp only [Bool.and_eq_true, Bool.not_eq_true'] at hs
        have hu := isStr_un hcx hs.1
        obtain ⟨u, u', e, hd, hd'⟩ := denL2 hin
        rw [← hv] at e
        cases mx with
        | some m => cases hs.2
        | none =>
          cases lo with
          | some lo =>
            cases hi with
            | some hi => simp at e
            | none =>
              simp only [Option.isSome_some, Option.isSome_none, Bool.not_false, Bool.and_true, Bool.true_and, cond_true] at hc
              obtain ⟨rfl, rfl, rfl⟩ := may_inj hc
              simp at e
              obtain ⟨e1, e2⟩ := e
              have hx := den_val hd
              have hy := den_val hd'
              rw [← e1] at hx
              rw [← e2] at hy
              have hp : 0 ≤ a ∧ a ≤ z.size := hps
              refine .of_run (u := .string (z.extract a.toNat z.size)) (W' := g.W) ?_ (good_same hm (den_val_mk _))
              simp [execOp, hop, hx, hy, Instr.sliceAt, run_underlying hu, Instr.slice, Instr.sliceBounds, Instr.sliceBound, asIntOf, hp.1, hp.2, Result.andThen]
          | none =>
            cases hi with
            | none => simp at e
            | some hi =>
              simp only [Option.isSome_some, Option.isSome_none, Bool.not_false, Bool.not_true, Bool.and_true, Bool.true_and, Bool.false_and, cond_true, cond_false] at hc
              obtain ⟨rfl, rfl, rfl⟩ := may_inj hc
              simp at e
              obtain ⟨e1, e2⟩ := e
              have hx := den_val hd
              have hy := den_val hd'
              rw [← e1] at hx
              rw [← e2] at hy
              have hp : 0 ≤ a ∧ a ≤ z.size := hps
              refine .of_run (u := .string (z.extract 0 a.toNat)) (W' := g.W) ?_ (good_same hm (den_val_mk _))
              simp [execOp, hop, hx, hy, Instr.sliceAt, run_underlying hu, Instr.slice, Instr.sliceBounds, Instr.sliceBound, asIntOf, hp.1, hp.2, Result.andThen]
    · rename_i z a b _
      cases hs : (isStr cx t && !mx.isSome && lo.isSome && hi.isSome) with
      | false => rw [hs] at hc; cases hc
      | true =>
        rw [hs] at hc
        simp only [cond_true] at hc
        simp only [Bool.and_eq_true, Bool.not_eq_true'] at hs
        have hu := isStr_un hcx hs.1.1.1
        simp only [DenL] at hin
        obtain ⟨u1, v1, e1, hd1, u2, v2, e2, hd2, u3, v3, e3, hd3, e4⟩ := hin
        subst e4 e3 e2
        rw [← hv] at e1
        cases mx with
        | some m => cases hs.1.1.2
        | none =>
          cases lo with
          | none => cases hs.1.2
          | some lo =>
            cases hi with
            | none => cases hs.2
            | some hi =>
              obtain ⟨rfl, rfl, rfl⟩ := may_inj hc
              simp at e1
              obtain ⟨f1, f2, f3⟩ := e1
              have hx := den_val hd1
              have hy := den_val hd2
              have hz := den_val hd3
              rw [← f1] at hx
              rw [← f2] at hy
              rw [← f3] at hz
              have hp : 0 ≤ a ∧ a ≤ b ∧ b ≤ z.size := hps
              have h0b : 0 ≤ b := by omega
              have hab : a ≤ max b 0 := by omega
              refine .of_run (u := .string (z.extract a.toNat b.toNat)) (W' := g.W) ?_ (good_same hm (den_val_mk _))
              simp [execOp, hop, hx, hy, hz, Instr.sliceAt, run_underlying hu, Instr.slice, Instr.sliceBounds, Instr.sliceBound, asIntOf, hp.1, hp.2.2, h0b, hab, Result.andThen]
    · cases hc
theorem Eff.mono {P : Program} {ρ : Operand → Value} {o : Oper} {W : World} {K K' : Value → World → Prop} (h : Eff P ρ o W K) (hk : ∀ u w', K u w' → K' u w') : Eff P ρ o W K' := by
  unfold Eff at h ⊢
  generalize (execOp ρ o).run P W = r at h ⊢
  cases r with
  | ok n w =>
    cases n with
    | value u => exact hk _ _ h
    | skip => exact hk _ _ h
    | enter f args => exact Calls.mono h fun e w' ⟨u, h1, h2⟩ => ⟨u, h1, hk _ _ h2⟩
    | _ => exact h
  | _ => exact h
theorem eff_sliceT (hcx : CxOk P cx) (hm : MOk w0 G0 g H) (hhp : ∀ r o, hp r = some o → H r = some o) (hin : DenL g ins vs) {t : Nat} {x : Operand} {lo hi mx : Option Operand} (hc : cSliceT cx t lo.isSome hi.isSome mx.isSome hp ins = some (ps, v, hs)) (hps : allP ps)
    (hop : o.op = .slice t x lo hi mx) (hv : (x :: (lo.toList ++ hi.toList ++ mx.toList)).map ρ = vs) : Eff P ρ o g.W (Good w0 G0 g nm (updH H hs) v) := by
  unfold cSliceT at hc
  split at hc
  · rename_i z hz
    rw [hc] at hz
    exact eff_sliceT0 hcx hm hin hz hps hop hv
  · unfold cSliceR at hc
    split at hc
    · rename_i r rest _
      split at hc
      · rename_i e l hr
        split at hc
        · rename_i ps' v' hs'
          simp only [Option.some.injEq, Prod.mk.injEq] at hc
          obtain ⟨rfl, rfl, rfl⟩ := hc
          obtain ⟨g1, k1, k2, k3, k4, k5, k6⟩ := off_rows [r] hm
          simp only [DenL] at hin
          obtain ⟨u, us, e1, hd, hrest⟩ := hin
          have hrep := k6 r List.mem_cons_self e l (hhp r _ hr)
          have hu : u = g.β r := by simp only [Den] at hd; exact hd.2.1
          have hin1 : DenL g1 (.im (.ls l) :: rest) vs := by
            simp only [DenL]
            exact ⟨u, us, e1, by simp only [Den]; rw [hu]; exact hrep, DenL.mono k4 rest us hrest⟩
          have h := eff_slice (nm := nm) hcx k5 hin1 hs' hps hop hv
          rw [k1] at h
          refine Eff.mono h fun u' w' hg => ?_
          obtain ⟨g', a1, a2, a3, a4, a5⟩ := hg
          exact ⟨g', a1, k4.trans a2, fun r => by rw [a3, k3], a4, a5⟩
        · cases hc
      · cases hc
    · cases hc
end
end Go.Proofs.YtbpbndlgfiammaaGreatDoor.En
