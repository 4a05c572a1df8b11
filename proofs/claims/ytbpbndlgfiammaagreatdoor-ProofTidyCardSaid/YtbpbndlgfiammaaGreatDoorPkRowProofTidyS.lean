/- Lemmas and contracts for the row. -/
import Derived.Test.YtbpbndlgfiammaaGreatDoorPkRowProofTidyR
import Derived.Lib.AppendStr
set_option linter.unusedVariables false
set_option linter.unusedSimpArgs false
set_option linter.unnecessarySimpa false
namespace Go.Proofs.YtbpbndlgfiammaaGreatDoor.En
open Go Go.RowKit
section
variable {P : Program} (w : World)
theorem strCells_I (s : ByteArray) : Lib.strCells s = (bytesI s).map fun x => Value.int .u8 x := by
  unfold Lib.strCells bytesI
  rw [List.map_map]; rfl
theorem bytesI_len (s : ByteArray) : (bytesI s).length = s.size := by unfold bytesI; rw [List.length_map]; rfl
theorem run_appendS {t tx ty e : TypeId} {ed : TD} (ht : P.underlying t = some (.slice e)) (htx : P.underlying tx = some .string) (hed : TyOk P e ed) (h1 : ed.size = 1) (hz1 : ed.zero.length = 1) (hb0 : 0 < ed.bytes) {v : Value} {xs : List Value} (hown : Own w e v xs) (s : ByteArray)
    (hbytes : (xs.length + s.size) * ed.bytes ≤ 140737488355328) :
    ∃ v' W', (Builtin.append_ #[t, tx] ty #[v, .string s]).run P w = .ok v' W' ∧ Own W' e v' (xs ++ Lib.strCells s) ∧ w.grownBy W' v.ownBlock ∧ ∀ b, v'.ownBlock = some b → v.ownBlock = some b ∨ b = w.heap.size := by
  obtain ⟨i, z, hi, hs, hz', hzc, hby⟩ := hed.info
  have hzs : z.cells.size = 1 := by rw [← Array.length_toList, hzc, hz1]
  have hsize : i.size = 1 := by rw [hs, h1]
  have hle : xs.length + s.size ≤ (xs.length + s.size) * ed.bytes := Nat.le_mul_of_pos_right _ hb0
  have h63 : xs.length + s.size ≤ maxLen := by unfold maxLen; omega
  have hlen : (Lib.strCells s).length = s.size := Lib.strCells_length s
  have hzl : ∀ m, (Builtin.zeroCells z.cells m).size = m := fun m => by unfold Builtin.zeroCells; simp [hzs]
  rcases hown with ⟨rfl, rfl⟩ | ⟨g, off, cap, cur, rfl, hg, hnc, hcmx, hfit, hcs⟩
  · by_cases h0 : s.size = 0
    · have hsc : Lib.strCells s = [] := List.eq_nil_of_length_eq_zero (by rw [hlen, h0])
      refine ⟨.slice none 0 0, w, ?_, by rw [hsc]; exact Own.nil w e, ⟨rfl, rfl, rfl, Nat.le_refl _, fun _ _ _ => rfl⟩, fun b hb => .inl hb⟩
      have hf := Lib.run_firstCells_string (P := P) w i.size s
      rw [h0] at hf
      simp [Builtin.append_, run_underlying ht, run_underlying htx, sizeOf, typeInfo, hi, Builtin.lenOf, h0, hf]
    · have hr := run_append_nil_string (P := P) w t tx ty e i z ht htx hi hz' s (by omega) (by unfold maxLen at h63; simp at h63; omega) (by rw [hby]; simp at hbytes; omega)
      have hge := grownCap_ge w s.size 0 e
      have hcm := grownCap_le_maxLen w s.size 0 e (by simpa using h63)
      refine ⟨_, _, hr, .inr ⟨w.heap.size, 0, _, _, by simp [hlen], .mk0 (heap_alloc_new w.drew _), by simpa [hlen] using hge, hcm, ?_, fun j hj => ?_⟩, ⟨rfl, rfl, rfl, by simp, fun k hk _ => Below.heap_alloc w.drew _ k hk⟩, fun b hb => .inr (by injection hb with hb; exact hb.symm)⟩
      · have : s.data.size = s.size := rfl
        rw [Array.size_append, Array.size_map, hzl]; omega
      · rw [List.nil_append, hlen] at hj
        have hj2 : j < s.data.size := hj
        rw [Nat.zero_add, Array.getElem?_append_left (by rw [Array.size_map]; exact hj2), Array.getElem?_map, Array.getElem?_eq_getElem hj2]
        simp [Lib.strCells]
  · have hcell : ∀ j, j < xs.length → w.cell? ⟨g, off + j, none⟩ = xs[j]? := fun j hj => by
      rw [hg.cell (off + j), hcs j hj, List.getElem?_eq_getElem hj]
    by_cases hroom : xs.length + s.size ≤ cap
    · have hcell2 : ∀ j, j < (Lib.strCells s).length → (w.cell? ⟨g, off + xs.length + 0 + j, none⟩).isSome = true := fun j hj => by
        rw [hlen] at hj
        rw [hg.cell, Array.getElem?_eq_getElem (by omega)]; rfl
      have hfz : ∀ j, j < (Lib.strCells s).length → w.frozen? ⟨g, off + xs.length + 0 + j, none⟩ = false := fun j hj => hg.frozen (by rw [hlen] at hj; omega)
      have hst := run_storeCells_cells (P := P) g (off + xs.length) (Lib.strCells s) 0 w hcell2 hfz (Lib.strCells_oneCell s)
      rw [Nat.add_zero, RowAt.store _ _ cur w hg (by rw [hlen]; omega)] at hst
      have hf := Lib.run_firstCells_string (P := P) w 1 s
      have hr : (Builtin.append_ #[t, tx] ty #[.slice (some ⟨g, off, none⟩) xs.length cap, .string s]).run P w = .ok (.slice (some ⟨g, off, none⟩) (xs.length + s.size) cap) (w.setRow g (cur.toList.take (off + xs.length) ++ Lib.strCells s ++ cur.toList.drop (off + xs.length + (Lib.strCells s).length)).toArray) := by
        simp [Builtin.append_, run_underlying ht, run_underlying htx, sizeOf, typeInfo, hi, hsize, Builtin.lenOf, hroom, hf, Addr.add_lit, hst]
      refine ⟨_, _, hr, .inr ⟨g, off, cap, _, by rw [List.length_append, hlen], hg.setRow (by simp [hlen]; omega), by rw [List.length_append, hlen]; omega, hcmx, by simp [hlen]; omega, fun j hj => ?_⟩, ⟨rfl, rfl, rfl, by simp, fun k _ hk => setRow_other w g k _ (fun e => hk (by simp [Value.ownBlock, e]))⟩, fun b hb => .inl hb⟩
      simp only [List.length_append, hlen] at hj
      simp only [List.getElem?_toArray]
      rw [List.append_assoc, List.getElem?_append]
      by_cases hjx : j < xs.length
      · rw [if_pos (by simp; omega), List.getElem?_take, if_pos (by omega)]
        rw [List.getElem_append_left hjx, ← hcs j hjx]
        simp
      · rw [if_neg (by simp; omega), List.getElem?_append_left (by simp [hlen]; omega), List.getElem_append_right (by omega)]
        have : off + j - (cur.toList.take (off + xs.length)).length = j - xs.length := by simp; omega
        rw [this, List.getElem?_eq_getElem (by rw [hlen]; omega)]
    · have hold : ∀ j u, xs[j]? = some u → w.cell? ((⟨g, off, none⟩ : Addr).add j) = some u := fun j u hu => by
        obtain ⟨hj, rfl⟩ := List.getElem?_eq_some_iff.1 hu
        rw [add_mk]
        exact (hcell j hj).trans (List.getElem?_eq_getElem hj)
      have hr := Lib.run_append_grow_string (P := P) w t tx ty e i z ht htx hi hz' ⟨g, off, none⟩ xs.length cap xs (by rw [hsize, Nat.mul_one]) hold s (by omega) (by unfold maxLen at h63; omega) (growslice_fits (by omega) (by rw [hby]; exact hbytes))
      have hge := grownCap_ge w (xs.length + s.size) cap e
      have hcm := grownCap_le_maxLen w (xs.length + s.size) cap e h63
      refine ⟨_, _, hr, .inr ⟨w.heap.size, 0, _, _, by rw [List.length_append, hlen], .mk0 (heap_alloc_new w.drew _), by rw [List.length_append, hlen]; exact hge, hcm, ?_, fun j hj => ?_⟩, ⟨rfl, rfl, rfl, by simp, fun k hk _ => Below.heap_alloc w.drew _ k hk⟩, fun b hb => .inr (by injection hb with hb; exact hb.symm)⟩
      · rw [Array.size_append, Array.size_append, List.size_toArray, List.size_toArray, hzl, hlen]; omega
      · have hj' := hj
        rw [List.length_append] at hj'
        rw [Nat.zero_add, Array.getElem?_append_left (by rw [Array.size_append, List.size_toArray, List.size_toArray]; exact hj'), show xs.toArray ++ (Lib.strCells s).toArray = (xs ++ Lib.strCells s).toArray by simp, List.getElem?_toArray, List.getElem?_eq_getElem hj]
end
section
variable {P : Program} {cx : Cx} {w0 : Base} {G0 : Nat → Prop} {g : Gh} {H hp : Nat → Option AObj} {nm : Nat} {ins : List AV} {vs : List Value} {ps : List Prop} {v : AV} {hs : List (Nat × Option AObj)} {ρ : Operand → Value} {o : Oper}
theorem isStr_un (hcx : CxOk P cx) {t : Nat} (h : isStr cx t = true) : P.underlying t = some .string := by
  unfold isStr at h
  split at h
  · rename_i td h1
    obtain ⟨dd, hu, hd⟩ := (hcx.ty t td h1).desc
    rw [hu, desc_string hd (Nat.eq_of_beq_eq_true h)]
  · cases h
theorem strs_rep {xs : List Int} {z : ByteArray} {ys : List Value} {W : World} {G : Nat → Prop} (hyl : ys.length = xs.length) (hy : ∀ i, i < xs.length → Rep W G (.val (.int .u8 (xs.getD i 0))) (ys.getD i undef)) :
    ∀ i j, i < (LD.bytes (xs ++ bytesI z)).len → j < (LD.bytes (xs ++ bytesI z)).st → Rep W G ((LD.bytes (xs ++ bytesI z)).cell i j) ((ys ++ Lib.strCells z).getD (i * (LD.bytes (xs ++ bytesI z)).st + j) undef) := fun i j hi hj => by
  have hj0 : j = 0 := by have : j < 1 := hj
                         omega
  have hi' : i < (xs ++ bytesI z).length := hi
  subst hj0
  show Rep W G (.val (.int .u8 ((xs ++ bytesI z).getD i 0))) ((ys ++ Lib.strCells z).getD (i * 1 + 0) undef)
  rw [Nat.mul_one, Nat.add_zero, strCells_I]
  by_cases hlt : i < xs.length
  · have e1 : (xs ++ bytesI z).getD i 0 = xs.getD i 0 := by simp [List.getD, List.getElem?_append_left hlt]
    have e2 : (ys ++ (bytesI z).map fun x => Value.int .u8 x).getD i undef = ys.getD i undef := by simp [List.getD, List.getElem?_append_left (show i < ys.length by omega)]
    rw [e1, e2]
    exact hy i hlt
  · obtain ⟨q, rfl⟩ : ∃ q, i = xs.length + q := ⟨i - xs.length, by omega⟩
    rw [List.length_append] at hi'
    have hq : q < (bytesI z).length := by omega
    have e1 : (xs ++ bytesI z).getD (xs.length + q) 0 = (bytesI z).getD q 0 := by simp [List.getD, List.getElem?_append_right (show xs.length ≤ xs.length + q by omega)]
    have e2 : (ys ++ (bytesI z).map fun x => Value.int .u8 x).getD (xs.length + q) undef = .int .u8 ((bytesI z).getD q 0) := by
      rw [← hyl]
      simp [List.getD, List.getElem?_append_right (show ys.length ≤ ys.length + q by omega), List.getElem?_eq_getElem hq]
    rw [e1, e2]
    exact .val _
theorem eff_appendS (hcx : CxOk P cx) (hhp : ∀ r o, hp r = some o → H r = some o) (hm : MOk w0 G0 g H) (hn : ¬ g.U nm) (hin : DenL g ins vs) {t t2 : Nat} (hc : cAppendS cx nm t t2 hp ins = some (ps, v, hs)) (hps : allP ps)
    {c : Call} {x y : Operand} (hop : o.op = .call c) (hb : c.callee = .builtin .append) (ht : c.argTypes = #[t, t2]) (ha : c.args = #[x, y]) (hv : [ρ x, ρ y] = vs) : Eff P ρ o g.W (Good w0 G0 g nm (updH H hs) v) := by
  have hrun : ∀ v' W', (Builtin.append_ #[t, t2] o.type #[ρ x, ρ y]).run P g.W = .ok v' W' → (execOp ρ o).run P g.W = .ok (.value v') W' := by
    intro v' W' h
    simp [execOp, hop, resolve, hb, ht, ha, invoke, builtin, h, Result.andThen]
  unfold cAppendS at hc
  split at hc
  · rename_i r z
    split at hc
    · rename_i e by_ k e' xs he hr
      cases hbe : (Nat.beq e e' && isStr cx t2) with
      | false => rw [hbe] at hc; cases hc
      | true =>
        rw [hbe] at hc
        simp only [cond_true, Option.some.injEq, Prod.mk.injEq] at hc
        obtain ⟨rfl, rfl, rfl⟩ := hc
        simp only [Bool.and_eq_true] at hbe
        have := Nat.eq_of_beq_eq_true hbe.1
        subst this
        have hstr := isStr_un hcx hbe.2
        obtain ⟨hu, ed, hled, hed, hsz, hb0, hby, hzl⟩ := elem1_of hcx he
        obtain ⟨u, u', e1, hd, hd'⟩ := denL2 hin
        rw [← hv] at e1
        cases e1
        simp only [Den] at hd
        obtain ⟨hU, hx, _⟩ := hd
        have hy := den_val hd'
        have hH := hhp r _ hr
        obtain ⟨_, ys, ho, h2, h4⟩ := hm.ok r _ hH
        obtain ⟨ho1, hyl, hyc⟩ := row1_of (l := .bytes xs) rfl ho h4
        have hyl' : ys.length = xs.length := hyl
        have hp : (xs.length + z.size) * by_ ≤ 140737488355328 := hps
        obtain ⟨v', W', hr', o1, o2, o3⟩ := run_appendS (P := P) g.W (ty := o.type) hu hstr hed hsz hzl (by omega) ho1 z (by rw [hyl', hby]; exact hp)
        have hbk := own_blk ho1
        rw [← hbk] at o2
        have hor : OwnR W' e 1 v' (LD.bytes (xs ++ bytesI z)).len (ys ++ Lib.strCells z) := .of_one o1 (by rw [List.length_append, hyl', Lib.strCells_length]; show _ = (xs ++ bytesI z).length; rw [List.length_append, bytesI_len])
        refine .of_run (hrun v' W' ?_) (good_row (l := .bytes (xs ++ bytesI z)) (ob := blkOf (g.β r)) (xs := ys ++ Lib.strCells z) hm hn o2 (fun b hb => hm.own r _ b hH hb) (fun a ob hx' => ?_) hor ?_ (strs_rep hyl' hyc) (fun b hb => ?_))
        · rw [hx, hy]; exact hr'
        · rcases updH2 hx' with h | ⟨ha1, ha2, ha3⟩
          · exact .inl h
          · exact .inr ⟨ha1, ha3, fun b hb hb' => ha2 (hm.sep a r _ _ b ha3 hH hb' hb)⟩
        · show (xs ++ bytesI z).length ≤ maxLen
          rw [List.length_append, bytesI_len]
          have : xs.length + z.size ≤ (xs.length + z.size) * by_ := Nat.le_mul_of_pos_right _ (by omega)
          unfold maxLen
          omega
        · rw [own_blk o1] at hb
          rw [hbk]
          exact o3 b hb
    · cases hc
  · rename_i z
    split at hc
    · rename_i e by_ k he
      cases hbe : isStr cx t2 with
      | false => rw [hbe] at hc; cases hc
      | true =>
        rw [hbe] at hc
        simp only [cond_true, Option.some.injEq, Prod.mk.injEq] at hc
        obtain ⟨rfl, rfl, rfl⟩ := hc
        have hstr := isStr_un hcx hbe
        obtain ⟨hu, ed, hled, hed, hsz, hb0, hby, hzl⟩ := elem1_of hcx he
        obtain ⟨u, u', e1, hd, hd'⟩ := denL2 hin
        rw [← hv] at e1
        cases e1
        have hx := den_val hd
        have hy := den_val hd'
        have hp : z.size * by_ ≤ 140737488355328 := hps
        obtain ⟨v', W', hr', o1, o2, o3⟩ := run_appendS (P := P) g.W (ty := o.type) hu hstr hed hsz hzl (by omega) (Own.nil g.W e) z (by simp only [List.length_nil, Nat.zero_add]; rw [hby]; exact hp)
        have hor : OwnR W' e 1 v' (LD.bytes ([] ++ bytesI z)).len ([] ++ Lib.strCells z) := .of_one o1 (by rw [List.nil_append, Lib.strCells_length]; show _ = ([] ++ bytesI z).length; rw [List.nil_append, bytesI_len])
        have hrp := strs_rep (xs := []) (z := z) (ys := []) (W := g.W) (G := g.G) rfl (fun i hi => absurd hi (Nat.not_lt_zero _))
        rw [List.nil_append, List.nil_append] at hrp
        rw [List.nil_append, List.nil_append] at hor
        refine .of_run (hrun v' W' ?_) (good_row (l := .bytes (bytesI z)) (ob := none) (xs := Lib.strCells z) hm hn o2 (fun b hb => by cases hb) (fun a ob hx' => ?_) hor ?_ hrp (fun b hb => ?_))
        · rw [hx, hy]; exact hr'
        · rcases updH1 hx' with h | ⟨ha1, ha2⟩
          · exact .inl h
          · exact .inr ⟨ha1, ha2, fun b hb => by cases hb⟩
        · show (bytesI z).length ≤ maxLen
          rw [bytesI_len]
          have : z.size ≤ z.size * by_ := Nat.le_mul_of_pos_right _ (by omega)
          unfold maxLen
          omega
        · rw [own_blk o1] at hb
          rcases o3 b hb with h | h
          · cases h
          · exact .inr h
    · cases hc
  · cases hc
theorem eff_appendT (hcx : CxOk P cx) (hhp : ∀ r o, hp r = some o → H r = some o) (hm : MOk w0 G0 g H) (hn : ¬ g.U nm) (hin : DenL g ins vs) {t t2 : Nat} (hc : cAppendT cx nm t t2 hp ins = some (ps, v, hs)) (hps : allP ps)
    {c : Call} {x y : Operand} (hop : o.op = .call c) (hb : c.callee = .builtin .append) (ht : c.argTypes = #[t, t2]) (ha : c.args = #[x, y]) (hv : [ρ x, ρ y] = vs) : Eff P ρ o g.W (Good w0 G0 g nm (updH H hs) v) := by
  unfold cAppendT at hc
  split at hc
  · rename_i z hz
    rw [hc] at hz
    exact eff_appendZ hcx hhp hm hn hin hz hps hop hb ht ha hv
  · exact eff_appendS hcx hhp hm hn hin hc hps hop hb ht ha hv
theorem appendT_two {t t2 : Nat} (hc : cAppendT cx nm t t2 hp ins = some (ps, v, hs)) : ∃ x y, ins = [x, y] := by
  unfold cAppendT at hc
  split at hc
  · rename_i z hz
    unfold cAppendZ at hz
    split at hz
    · exact ⟨_, _, rfl⟩
    · cases hz
  · unfold cAppendS at hc
    split at hc
    · exact ⟨_, _, rfl⟩
    · exact ⟨_, _, rfl⟩
    · cases hc
theorem eff_lenT (hcx : CxOk P cx) (hm : MOk w0 G0 g H) (hin : DenL g ins vs) (hhp : ∀ r o, hp r = some o → H r = some o) {t : Nat} (hc : cLenS cx t ins = some (ps, v, hs)) {c : Call} {x : Operand} (hop : o.op = .call c) (hb : c.callee = .builtin .len) (ht : c.argTypes = #[t]) (ha : c.args = #[x]) (hv : [ρ x] = vs) :
    Eff P ρ o g.W (Good w0 G0 g nm (updH H hs) v) := by
    unfold cLenS at hc
    split at hc
    · rename_i z
      cases hs : isStr cx t with
      | false => rw [hs] at hc; cases hc
      | true =>
        rw [hs] at hc
        simp only [cond_true] at hc
        obtain ⟨rfl, rfl, rfl⟩ := yes_inj hc
        obtain ⟨u, e, hd⟩ := denL1 hin
        rw [← hv] at e
        cases e
        have hx := den_val hd
        have hu := isStr_un hcx hs
        refine .of_run (u := .int .i64 z.size) (W' := g.W) ?_ (good_same hm (den_val_mk _))
        simp [execOp, hop, resolve, hb, ht, ha, invoke, builtin, Builtin.len_, hx, run_underlying hu, goInt, Result.andThen]
    · cases hc
theorem bytesI_at {z : ByteArray} {i : Nat} (h : i < z.size) : z[i]?.map (fun b : UInt8 => (b.toNat : Int)) = some ((bytesI z).getD i 0) := by
  have h2 : i < z.data.size := h
  have h3 : z[i]? = some z[i] := getElem?_pos z i h
  rw [h3]
  have h4 : i < z.data.toList.length := by rw [Array.length_toList]; exact h2
  unfold bytesI
  simp only [Option.map_some, List.getD, List.getElem?_map, List.getElem?_eq_getElem h4, Option.getD_some]
  rfl
theorem eff_indexS (hcx : CxOk P cx) (hm : MOk w0 G0 g H) (hin : DenL g ins vs) {t : Nat} (hc : cIndexS cx t ins = some (ps, v, hs)) (hps : allP ps) {x y : Operand} (hop : o.op = .index t x y) (hv : [ρ x, ρ y] = vs) : Eff P ρ o g.W (Good w0 G0 g nm (updH H hs) v) := by
  unfold cIndexS at hc
  split at hc
  · rename_i z i
    cases hs : isStr cx t with
    | false => rw [hs] at hc; cases hc
    | true =>
      rw [hs] at hc
      simp only [cond_true] at hc
      obtain ⟨rfl, rfl, rfl⟩ := may_inj hc
      obtain ⟨u, u', e, hd, hd'⟩ := denL2 hin
      rw [← hv] at e
      cases e
      have hx := den_val hd
      have hy := den_val hd'
      have hu := isStr_un hcx hs
      have hp : 0 ≤ i ∧ i < z.size := hps
      have hb := bytesI_at (z := z) (i := i.toNat) (by omega)
      obtain ⟨b, hb1, hb2⟩ : ∃ b, z[i.toNat]? = some b ∧ (b.toNat : Int) = (bytesI z).getD i.toNat 0 := by
        cases hq : z[i.toNat]? with
        | none => rw [hq] at hb; cases hb
        | some b => rw [hq] at hb; exact ⟨b, rfl, by injection hb⟩
      refine .of_run (u := .int .u8 ((bytesI z).getD i.toNat 0)) (W' := g.W) ?_ (good_same hm (den_val_mk _))
      simp only [execOp, hop, hx, hy, Instr.index, asIntOf, Sem.run_bind, Sem.run_pure, Result.andThen_ok, run_underlying hu, if_pos hp.1, hb1, hb2]
  · cases hc
theorem eff_sliceT0 (hcx : CxOk P cx) (hm : MOk w0 G0 g H) (hin : DenL g ins vs) {t : Nat} {x : Operand} {lo hi mx : Option Operand} (hc : cSliceT0 cx t lo.isSome hi.isSome mx.isSome ins = some (ps, v, hs)) (hps : allP ps)
    (hop : o.op = .slice t x lo hi mx) (hv : (x :: (lo.toList ++ hi.toList ++ mx.toList)).map ρ = vs) : Eff P ρ o g.W (Good w0 G0 g nm (updH H hs) v) := by
  unfold cSliceT0 at hc
  split at hc
  · rename_i z hz
    rw [hc] at hz
    exact eff_slice hcx hm hin hz hps hop hv
  · unfold cSliceS at hc
    split at hc
    · rename_i z a _
      cases hs : (isStr cx t && !mx.isSome) with
      | false => rw [hs] at hc; cases hc
      | true =>
        rw [hs] at hc
        simp only [cond_true] at hc
        simp only [Bool.and_eq_true, Bool.not_eq_true'] at hs
        have hu := isStr_un hcx hs.1
        obtain ⟨u, u', e, hd, hd'⟩ := denL2 hin
        rw [← hv] at e
        cases mx with
        | some m => cases hs.2
        | none =>
          cases lo with
          | some lo =>
            cases hi with
            | some hi => simp at e
            | none =>
              simp only [Option.isSome_some, Option.isSome_none, Bool.not_false, Bool.and_true, Bool.true_and, cond_true] at hc
              obtain ⟨rfl, rfl, rfl⟩ := may_inj hc
              simp at e
              obtain ⟨e1, e2⟩ := e
              have hx := den_val hd
              have hy := den_val hd'
              rw [← e1] at hx
              rw [← e2] at hy
              have hp : 0 ≤ a ∧ a ≤ z.size := hps
              refine .of_run (u := .string (z.extract a.toNat z.size)) (W' := g.W) ?_ (good_same hm (den_val_mk _))
              simp [execOp, hop, hx, hy, Instr.sliceAt, run_underlying hu, Instr.slice, Instr.sliceBounds, Instr.sliceBound, asIntOf, hp.1, hp.2, Result.andThen]
          | none =>
            cases hi with
            | none => simp at e
            | some hi =>
              simp only [Option.isSome_some, Option.isSome_none, Bool.not_false, Bool.not_true, Bool.and_true, Bool.true_and, Bool.false_and, cond_true, cond_false] at hc
              obtain ⟨rfl, rfl, rfl⟩ := may_inj hc
              simp at e
              obtain ⟨e1, e2⟩ := e
              have hx := den_val hd
              have hy := den_val hd'
              rw [← e1] at hx
              rw [← e2] at hy
              have hp : 0 ≤ a ∧ a ≤ z.size := hps
              refine .of_run (u := .string (z.extract 0 a.toNat)) (W' := g.W) ?_ (good_same hm (den_val_mk _))
              simp [execOp, hop, hx, hy, Instr.sliceAt, run_underlying hu, Instr.slice, Instr.sliceBounds, Instr.sliceBound, asIntOf, hp.1, hp.2, Result.andThen]
    · rename_i z a b _
      cases hs : (isStr cx t && !mx.isSome && lo.isSome && hi.isSome) with
      | false => rw [hs] at hc; cases hc
      | true =>
        rw [hs] at hc
        simp only [cond_true] at hc
        simp only [Bool.and_eq_true, Bool.not_eq_true'] at hs
        have hu := isStr_un hcx hs.1.1.1
        simp only [DenL] at hin
        obtain ⟨u1, v1, e1, hd1, u2, v2, e2, hd2, u3, v3, e3, hd3, e4⟩ := hin
        subst e4 e3 e2
        rw [← hv] at e1
        cases mx with
        | some m => cases hs.1.1.2
        | none =>
          cases lo with
          | none => cases hs.1.2
          | some lo =>
            cases hi with
            | none => cases hs.2
            | some hi =>
              obtain ⟨rfl, rfl, rfl⟩ := may_inj hc
              simp at e1
              obtain ⟨f1, f2, f3⟩ := e1
              have hx := den_val hd1
              have hy := den_val hd2
              have hz := den_val hd3
              rw [← f1] at hx
              rw [← f2] at hy
              rw [← f3] at hz
              have hp : 0 ≤ a ∧ a ≤ b ∧ b ≤ z.size := hps
              have h0b : 0 ≤ b := by omega
              have hab : a ≤ max b 0 := by omega
              refine .of_run (u := .string (z.extract a.toNat b.toNat)) (W' := g.W) ?_ (good_same hm (den_val_mk _))
              simp [execOp, hop, hx, hy, hz, Instr.sliceAt, run_underlying hu, Instr.slice, Instr.sliceBounds, Instr.sliceBound, asIntOf, hp.1, hp.2.2, h0b, hab, Result.andThen]
    · cases hc
theorem Eff.mono {P : Program} {ρ : Operand → Value} {o : Oper} {W : World} {K K' : Value → World → Prop} (h : Eff P ρ o W K) (hk : ∀ u w', K u w' → K' u w') : Eff P ρ o W K' := by
  unfold Eff at h ⊢
  generalize (execOp ρ o).run P W = r at h ⊢
  cases r with
  | ok n w =>
    cases n with
    | value u => exact hk _ _ h
    | skip => exact hk _ _ h
    | enter f args => exact Calls.mono h fun e w' ⟨u, h1, h2⟩ => ⟨u, h1, hk _ _ h2⟩
    | _ => exact h
  | _ => exact h
theorem eff_sliceT (hcx : CxOk P cx) (hm : MOk w0 G0 g H) (hhp : ∀ r o, hp r = some o → H r = some o) (hin : DenL g ins vs) {t : Nat} {x : Operand} {lo hi mx : Option Operand} (hc : cSliceT cx t lo.isSome hi.isSome mx.isSome hp ins = some (ps, v, hs)) (hps : allP ps)
    (hop : o.op = .slice t x lo hi mx) (hv : (x :: (lo.toList ++ hi.toList ++ mx.toList)).map ρ = vs) : Eff P ρ o g.W (Good w0 G0 g nm (updH H hs) v) := by
  unfold cSliceT at hc
  split at hc
  · rename_i z hz
    rw [hc] at hz
    exact eff_sliceT0 hcx hm hin hz hps hop hv
  · unfold cSliceR at hc
    split at hc
    · rename_i r rest _
      split at hc
      · rename_i e l hr
        split at hc
        · rename_i ps' v' hs'
          simp only [Option.some.injEq, Prod.mk.injEq] at hc
          obtain ⟨rfl, rfl, rfl⟩ := hc
          obtain ⟨g1, k1, k2, k3, k4, k5, k6⟩ := off_rows [r] hm
          simp only [DenL] at hin
          obtain ⟨u, us, e1, hd, hrest⟩ := hin
          have hrep := k6 r List.mem_cons_self e l (hhp r _ hr)
          have hu : u = g.β r := by simp only [Den] at hd; exact hd.2.1
          have hin1 : DenL g1 (.im (.ls l) :: rest) vs := by
            simp only [DenL]
            exact ⟨u, us, e1, by simp only [Den]; rw [hu]; exact hrep, DenL.mono k4 rest us hrest⟩
          have h := eff_slice (nm := nm) hcx k5 hin1 hs' hps hop hv
          rw [k1] at h
          refine Eff.mono h fun u' w' hg => ?_
          obtain ⟨g', a1, a2, a3, a4, a5⟩ := hg
          exact ⟨g', a1, k4.trans a2, fun r => by rw [a3, k3], a4, a5⟩
        · cases hc
      · cases hc
    · cases hc
end
end Go.Proofs.YtbpbndlgfiammaaGreatDoor.En
namespace Go.Proofs.YtbpbndlgfiammaaGreatDoor.En
open Go Go.RowKit
section
variable {P : Program} {cx : Cx} {w0 : Base} {G0 : Nat → Prop} {g : Gh} {H hp : Nat → Option AObj} {nm : Nat}
  {ins : List AV} {vs : List Value} {ρ : Operand → Value} {o : Oper} {ps : List Prop} {v : AV} {hs : List (Nat × Option AObj)}
theorem mapTy_un (hcx : CxOk P cx) {t e : Nat} (h : mapTy cx t = some e) : ∃ k, P.underlying t = some (.map k e) ∧ P.underlying k = some (.int .i64) ∧ ∀ i cs, P.info? e = some i → i.zero ≠ some (.agg cs) := by
  unfold mapTy at h
  split at h
  · rename_i td ht
    have hok := (hcx.ty t td ht).2.2
    cases hb : Nat.beq td.ik 10 with
    | false => rw [hb] at h; cases h
    | true =>
      rw [hb] at h
      simp only [cond_true, Option.some.injEq] at h
      unfold mapOk at hok
      rw [hb] at hok
      simp only [cond_true] at hok
      split at hok
      · rename_i k e' hu
        simp only [Bool.and_eq_true] at hok
        refine ⟨k, ?_, ?_, fun i cs hi hz => ?_⟩
        · rw [hu, Nat.eq_of_beq_eq_true hok.1, h]
        · have h2 := hok.2.1
          split at h2
          · assumption
          · cases h2
        · have h2 := hok.2.2
          rw [Nat.eq_of_beq_eq_true hok.1, h, hi] at h2
          simp [hz] at h2
      · cases hok
  · cases h
theorem good_made (h : MOk w0 G0 g H) (hn : ¬ g.U nm) : Good w0 G0 g nm (updH H [(nm, some (.mset []))]) (.row nm) (.map (some g.W.heap.size)) (g.W.alloc (.map #[] 0)) := by
  have hne : ∀ r, g.U r → r ≠ nm := fun r hr e => hn (e ▸ hr)
  have hHn : ∀ r o, H r = some o → r ≠ nm := fun r o hr => hne r (h.ok r o hr).1
  let g' : Gh := ⟨g.W.alloc (.map #[] 0), g.G, fun r => if r = nm then .map (some g.W.heap.size) else g.β r, fun r => g.U r ∨ r = nm⟩
  have hkeep : ∀ b, b < g.W.heap.size → g'.W.heap[b]? = g.W.heap[b]? := fun b hb => Below.heap_alloc g.W _ b hb
  have hle : g.le g' := ⟨fun b hb => hkeep b (h.gb b hb).1, fun _ hb => hb, fun r hr => ⟨.inl hr, if_neg (hne r hr)⟩⟩
  have hb1 : g'.β nm = .map (some g.W.heap.size) := if_pos rfl
  have hb2 : ∀ r, r ≠ nm → g'.β r = g.β r := fun r hr => if_neg hr
  have hupd : ∀ r o, updH H [(nm, some (.mset []))] r = some o → (r = nm ∧ o = .mset []) ∨ (r ≠ nm ∧ H r = some o) := fun r o hr => updH1 hr
  refine ⟨g', rfl, hle, fun _ => Iff.rfl, ⟨?_, ?_, ?_, ?_, ?_, h.anc_up hle⟩, ?_⟩
  · intro r o hr
    rcases hupd r o hr with ⟨rfl, rfl⟩ | ⟨hr', ho⟩
    · rw [hb1]
      exact ⟨.inr rfl, g.W.heap.size, rfl, MapV.made g.W⟩
    · obtain ⟨hu, hok⟩ := h.ok r o ho
      rw [hb2 r hr']
      exact ⟨.inl hu, hok.up hle fun b hb => hkeep b (hok.lt hb)⟩
  · intro r r' o o' b hr hr' hb hb'
    rcases hupd r o hr with ⟨rfl, rfl⟩ | ⟨hn1, ho⟩ <;> rcases hupd r' o' hr' with ⟨rfl, rfl⟩ | ⟨hn2, ho'⟩
    · rfl
    · rw [hb1] at hb
      rw [hb2 _ hn2] at hb'
      have := (h.ok r' o' ho').2.lt hb'
      simp [blkOf] at hb
      omega
    · rw [hb1] at hb'
      rw [hb2 _ hn1] at hb
      have := (h.ok r o ho).2.lt hb
      simp [blkOf] at hb'
      omega
    · rw [hb2 _ hn1] at hb
      rw [hb2 _ hn2] at hb'
      exact h.sep r r' o o' b ho ho' hb hb'
  · intro r o b hr hb
    rcases hupd r o hr with ⟨rfl, rfl⟩ | ⟨hn1, ho⟩
    · rw [hb1] at hb
      simp [blkOf] at hb
      subst hb
      exact ⟨fun hg => by have := (h.gb _ hg).1; omega, .inl h.bel.size⟩
    · rw [hb2 _ hn1] at hb
      exact h.own r o b ho hb
  · intro b hb
    have := h.gb b hb
    exact ⟨by show b < (g.W.alloc _).heap.size; simp; omega, this.2⟩
  · exact h.bel.alloc _
  · simp only [Den]
    exact ⟨.inr rfl, hb1.symm, .inr ⟨_, rfl⟩⟩
theorem good_put {r b : Nat} {o o' : AObj} {ob : Obj} (h : MOk w0 G0 g H) (hr : H r = some o) (hb : blkOf (g.β r) = some b)
    (hok : ∀ g' : Gh, g'.W = { g.W with heap := g.W.heap.setIfInBounds b ob } → g.le g' → ObjOk g' (g.β r) o') :
    Good w0 G0 g nm (updH H [(r, some o')]) .any undef { g.W with heap := g.W.heap.setIfInBounds b ob } := by
  have hnG : ¬ g.G b := (h.own r _ b hr hb).1
  let g' : Gh := ⟨{ g.W with heap := g.W.heap.setIfInBounds b ob }, g.G, g.β, fun x => g.U x ∨ x = nm⟩
  have hkeep : ∀ k, k ≠ b → g'.W.heap[k]? = g.W.heap[k]? := fun k hk => by
    show (g.W.heap.setIfInBounds b ob)[k]? = _
    rw [Array.getElem?_setIfInBounds, if_neg (fun e => hk e.symm)]
  have hle : g.le g' := ⟨fun k hk => hkeep k (fun e => hnG (e ▸ hk)), fun _ hb => hb, fun r hr => ⟨.inl hr, rfl⟩⟩
  have hupd : ∀ x p, updH H [(r, some o')] x = some p → (x = r ∧ p = o') ∨ (x ≠ r ∧ H x = some p) := fun x p hx => updH1 hx
  have hsome : ∀ x p, updH H [(r, some o')] x = some p → ∃ q, H x = some q := fun x p hx => by
    rcases hupd x p hx with ⟨rfl, _⟩ | ⟨_, h1⟩
    · exact ⟨_, hr⟩
    · exact ⟨_, h1⟩
  refine ⟨g', rfl, hle, fun _ => Iff.rfl, ⟨?_, ?_, ?_, ?_, ?_, h.anc_up hle⟩, by simp only [Den]⟩
  · intro x p hx
    rcases hupd x p hx with ⟨rfl, rfl⟩ | ⟨hx', ho⟩
    · exact ⟨.inl (h.ok _ _ hr).1, hok g' rfl hle⟩
    · obtain ⟨hu, hok⟩ := h.ok x p ho
      exact ⟨.inl hu, hok.up hle fun k hk => hkeep k (fun e => hx' (h.sep x r p _ b ho hr (e ▸ hk) hb))⟩
  · intro x x' p p' k hx hx' hk hk'
    obtain ⟨q, hq⟩ := hsome x p hx
    obtain ⟨q', hq'⟩ := hsome x' p' hx'
    exact h.sep x x' q q' k hq hq' hk hk'
  · intro x p k hx hk
    obtain ⟨q, hq⟩ := hsome x p hx
    exact h.own x q k hq hk
  · intro k hk
    have := h.gb k hk
    exact ⟨by show k < (g.W.heap.setIfInBounds b ob).size; simpa using this.1, this.2⟩
  · refine ⟨h.bel.os, h.bel.tape, h.bel.output, by simpa [g'] using h.bel.size, fun k hk hn => ?_⟩
    have hb0 := (h.own r _ b hr hb).2
    refine (hkeep k (fun e => ?_)).trans (h.bel.block k hk hn)
    subst e
    rcases hb0 with h0 | h0
    · omega
    · exact hn h0
theorem eff_makeMap (hcx : CxOk P cx) (hm : MOk w0 G0 g H) (hn : ¬ g.U nm) (hin : DenL g ins vs) {t : Nat} {x : Option Operand} (hc : cMakeMap cx nm t ins = some (ps, v, hs)) (hop : o.op = .makeMap t x) (hv : x.toList.map ρ = vs) :
    Eff P ρ o g.W (Good w0 G0 g nm (updH H hs) v) := by
  unfold cMakeMap at hc
  have hnew : ∀ W : World, (newObj (.map #[] 0)).run P W = .ok W.heap.size (W.alloc (.map #[] 0)) := fun W => by simp [newObj, Sem.run]
  split at hc
  · split at hc
    · rename_i e he
      simp only [Option.some.injEq, Prod.mk.injEq] at hc
      obtain ⟨rfl, rfl, rfl⟩ := hc
      simp only [DenL] at hin
      subst hin
      have hx : x = none := by cases x <;> simp_all
      subst hx
      refine .of_run (u := .map (some g.W.heap.size)) (W' := g.W.alloc (.map #[] 0)) ?_ (good_made hm hn)
      simp [execOp, hop, Instr.makeMap, hnew, Result.andThen]
    · cases hc
  · rename_i k
    split at hc
    · rename_i e he
      simp only [Option.some.injEq, Prod.mk.injEq] at hc
      obtain ⟨rfl, rfl, rfl⟩ := hc
      obtain ⟨u, e1, hd⟩ := denL1 hin
      obtain ⟨y, rfl⟩ : ∃ y, x = some y := by
        cases x with
        | none => rw [e1] at hv; simp at hv
        | some y => exact ⟨y, rfl⟩
      rw [e1] at hv
      simp at hv
      have hy := den_val hd
      rw [← hv] at hy
      obtain ⟨kt, hu, _⟩ := mapTy_un hcx he
      refine .of_run (u := .map (some g.W.heap.size)) (W' := g.W.alloc (.map #[] 0)) ?_ (good_made hm hn)
      simp [execOp, hop, Instr.makeMap, hnew, hy, run_underlying hu, asInt, asIntOf, Result.andThen]
    · cases hc
  · cases hc
theorem row_map {r b : Nat} {u : Value} (hd : Den g (.row r) u) (hβ : g.β r = .map (some b)) : u = .map (some b) := by
  simp only [Den] at hd
  exact hd.2.1.trans hβ
theorem eff_mapUpd (hcx : CxOk P cx) (hhp : ∀ r o, hp r = some o → H r = some o) (hm : MOk w0 G0 g H) (hin : DenL g ins vs) {t : Nat} (hc : cMapUpd cx t hp ins = some (ps, v, hs)) (hps : allP ps) {m k x : Operand}
    (hop : o.op = .mapUpdate t m k x ∨ o.op = .insert t m k x) (hv : [ρ m, ρ k, ρ x] = vs) : Eff P ρ o g.W (Good w0 G0 g nm (updH H hs) v) := by
  have hex : ∀ {W' : World}, (Instr.mapUpdate t (ρ m) (ρ k) (ρ x)).run P g.W = .ok () W' → (execOp ρ o).run P g.W = .ok .skip W' ∨ (execOp ρ o).run P g.W = .ok (.value undef) W' := fun h => by
    rcases hop with hop | hop <;> simp [execOp, hop, h, Result.andThen]
  have fin : ∀ {W' : World} {K : Value → World → Prop}, (Instr.mapUpdate t (ρ m) (ρ k) (ρ x)).run P g.W = .ok () W' → K undef W' → Eff P ρ o g.W K := fun h hk => by
    rcases hex h with h | h
    · exact .of_skip h hk
    · exact .of_run h hk
  unfold cMapUpd at hc
  split at hc
  · rename_i r z b
    split at hc
    · rename_i e ks he hr
      simp only [Option.some.injEq, Prod.mk.injEq] at hc
      obtain ⟨rfl, rfl, rfl⟩ := hc
      have hb : b = true := hps
      subst hb
      obtain ⟨u1, u2, u3, e1, d1, d2, d3⟩ := denL3 hin
      rw [e1] at hv
      simp only [List.cons.injEq, and_true] at hv
      obtain ⟨q1, q2, q3⟩ := hv
      obtain ⟨bk, hβ, hw⟩ := (hm.ok r _ (hhp r _ hr)).2
      obtain ⟨kt, hu, hkt, hna⟩ := mapTy_un hcx he
      obtain ⟨ob, h1, h2⟩ := run_updS t kt e hu hkt hw z
      refine fin (W' := { g.W with heap := g.W.heap.setIfInBounds bk ob }) ?_ (good_put hm (hhp r _ hr) (by rw [hβ]; rfl) fun g' hW hle => ⟨bk, hβ, by rw [hW]; exact h2⟩)
      rw [q1, q2, q3, row_map d1 hβ, den_val d2, den_val d3]
      exact h1
    · cases hc
  · rename_i r z f xs
    obtain ⟨u1, u2, u3, e1, d1, d2, d3⟩ := denL3 hin
    rw [e1] at hv
    simp only [List.cons.injEq, and_true] at hv
    obtain ⟨q1, q2, q3⟩ := hv
    split at hc
    · rename_i e he hr
      simp only [Option.some.injEq, Prod.mk.injEq] at hc
      obtain ⟨rfl, rfl, rfl⟩ := hc
      obtain ⟨bk, hβ, hw⟩ := (hm.ok r _ (hhp r _ hr)).2
      obtain ⟨kt, hu, hkt, hna⟩ := mapTy_un hcx he
      obtain ⟨ob, h1, h2⟩ := run_updV t kt e hu hkt hw z u3 (.inl rfl)
      replace h2 : MapV { g.W with heap := g.W.heap.setIfInBounds bk ob } bk ([z].zip [u3]) := h2
      refine fin (W' := { g.W with heap := g.W.heap.setIfInBounds bk ob }) ?_ (good_put hm (hhp r _ hr) (by rw [hβ]; rfl) fun g' hW hle => ⟨bk, [u3], hβ, rfl, by rw [hW]; exact h2, by simp only [DenL]; exact ⟨u3, [], rfl, Den.mono hle _ _ d3, rfl⟩⟩)
      rw [q1, q2, q3, row_map d1 hβ, den_val d2]
      exact h1
    · rename_i e ks cs he hr
      cases hall : ks.all fun j => !decide (j = z) with
      | false => rw [hall] at hc; cases hc
      | true =>
        rw [hall] at hc
        simp only [cond_true, Option.some.injEq, Prod.mk.injEq] at hc
        obtain ⟨rfl, rfl, rfl⟩ := hc
        have hnot : z ∉ ks := fun hz => by simpa using (List.all_eq_true.1 hall) z hz
        obtain ⟨bk, us, hβ, hl, hw, hd⟩ := (hm.ok r _ (hhp r _ hr)).2
        obtain ⟨kt, hu, hkt, hna⟩ := mapTy_un hcx he
        have hf : findV (ks.zip us) z = none := findV_not hnot
        obtain ⟨ob, h1, h2⟩ := run_updV t kt e hu hkt hw z u3 (.inl hf)
        rw [if_pos hf] at h2
        have hz : (ks ++ [z]).zip (us ++ [u3]) = ks.zip us ++ [(z, u3)] := by rw [List.zip_append hl.symm]; rfl
        refine fin (W' := { g.W with heap := g.W.heap.setIfInBounds bk ob }) ?_ (good_put hm (hhp r _ hr) (by rw [hβ]; rfl) fun g' hW hle => ⟨bk, us ++ [u3], hβ, by simp [hl], by rw [hW, hz]; exact h2, (hd.mono hle).append (by simp only [DenL]; exact ⟨u3, [], rfl, Den.mono hle _ _ d3, rfl⟩)⟩)
        rw [q1, q2, q3, row_map d1 hβ, den_val d2]
        exact h1
    · cases hc
  · cases hc
theorem findK_spec {k : Int} : ∀ {ks : List Int} {cs : List AV} {us : List Value} {x : AV}, findK k ks cs = some x → us.length = ks.length → DenL g cs us → ∃ u, findV (ks.zip us) k = some u ∧ Den g x u
  | [], cs, us, x, h, _, _ => by simp [findK] at h
  | j :: ks, [], us, x, h, _, _ => by simp [findK] at h
  | j :: ks, c :: cs, us, x, h, hl, hd => by
    simp only [DenL] at hd
    obtain ⟨u, us', rfl, d1, d2⟩ := hd
    simp only [findK] at h
    by_cases e : j = k
    · subst e
      simp at h
      subst h
      exact ⟨u, by simp [findV], d1⟩
    · simp [e] at h
      obtain ⟨u', h1, h2⟩ := findK_spec h (by simpa using hl) d2
      refine ⟨u', ?_, h2⟩
      unfold findV at h1 ⊢
      rw [List.zip_cons_cons, List.find?_cons]
      have : (j == k) = false := by simpa using e
      simp only [this]
      exact h1
theorem run_look_some {w : World} {m : Nat} {f : Int → Option Value} (t kt et : TypeId) (ht : P.underlying t = some (.map kt et)) (hkt : P.underlying kt = some (.int .i64)) (h : MapI w m f) (k : Int) {u : Value} (hu : f k = some u) :
    (Instr.lookup t (.map (some m)) (.int .i64 k) false).run P w = .ok u w := by
  obtain ⟨es, clock, hb, hk, hf⟩ := h
  have hc := fun em : Bool => run_key (P := P) (w := w) kt hkt em 9999 k
  have hg : (getObj m).run P w = .ok (.map es clock) w := by simp [getObj, Sem.run, hb]
  rcases findNow_spec k .i64 es.toList 0 hk with ⟨j, hj, h1, h2, h3, h4⟩ | ⟨h3, h2, h4⟩
  · rw [← hf k, h4] at hu
    cases hu
    simp [Instr.lookup, run_underlying ht, hg, hc, Instr.findKey, run_underlying hkt, h3]
  · rw [← hf k, h4] at hu
    cases hu
theorem zeroF_run (hcx : CxOk P cx) {e : Nat} (hna : ∀ i cs, P.info? e = some i → i.zero ≠ some (.agg cs)) (h : zeroF cx e = true) (W : World) : (zeroValue e).run P W = .ok (.bool false) W := by
  unfold zeroF at h
  split at h
  · rename_i ed he
    split at h
    · rename_i hz
      obtain ⟨i, z, hi, hs, hz', hc, _⟩ := (hcx.ty e ed he).info
      rw [hz] at hc
      have : z = .bool false := by
        cases z with
        | agg cs => exact absurd hz' (hna i cs hi)
        | _ => simpa [Value.cells] using hc
      subst this
      unfold zeroValue
      rw [Sem.run_bind]
      simp [typeInfo, hi, hz']
    · cases h
  · cases h
theorem eff_lookup (hcx : CxOk P cx) (hhp : ∀ r o, hp r = some o → H r = some o) (hm : MOk w0 G0 g H) (hin : DenL g ins vs) {t : Nat} {ok : Bool} (hc : cLookup cx t ok hp ins = some (ps, v, hs)) {m k : Operand}
    (hop : o.op = .lookup t m k ok) (hv : [ρ m, ρ k] = vs) : Eff P ρ o g.W (Good w0 G0 g nm (updH H hs) v) := by
  unfold cLookup at hc
  split at hc
  · rename_i r z
    obtain ⟨u1, u2, e1, d1, d2⟩ := denL2 hin
    rw [e1] at hv
    simp only [List.cons.injEq, and_true] at hv
    obtain ⟨q1, q2⟩ := hv
    split at hc
    · rename_i e ks he hr
      cases hz : zeroF cx e with
      | false => rw [hz] at hc; cases hc
      | true =>
        rw [hz] at hc
        simp only [cond_true] at hc
        obtain ⟨rfl, rfl, rfl⟩ := yes_inj hc
        obtain ⟨bk, hβ, hw⟩ := (hm.ok r _ (hhp r _ hr)).2
        obtain ⟨kt, hu, hkt, hna⟩ := mapTy_un hcx he
        have hz0 := zeroF_run hcx hna hz
        have hf := findV_set ks z
        have hg1 : (findV (setV ks) z).getD (.bool false) = .bool (ks.contains z) := by rw [hf]; cases ks.contains z <;> rfl
        have hg2 : (findV (setV ks) z).isSome = ks.contains z := by rw [hf]; cases ks.contains z <;> rfl
        cases ok with
        | false =>
          have h1 := run_look t kt e (.bool false) hu hkt hz0 hw.mapI z
          rw [hg1] at h1
          refine .of_run (u := .bool (ks.contains z)) (W' := g.W) ?_ (good_same hm (den_val_mk _))
          simp [execOp, hop, q1, q2, row_map d1 hβ, den_val d2, h1, Result.andThen]
        | true =>
          have h1 := lookT t kt e (.bool false) hu hkt hz0 hw.mapI z
          rw [hg1, hg2] at h1
          refine .of_run (u := .tuple #[.bool (ks.contains z), .bool (ks.contains z)]) (W' := g.W) ?_ (good_same hm ?_)
          · simp [execOp, hop, q1, q2, row_map d1 hβ, den_val d2, h1, Result.andThen]
          · simp only [cond_true, Den]
            refine ⟨[.bool (ks.contains z), .bool (ks.contains z)], rfl, ?_⟩
            simp only [DenL]
            exact ⟨_, _, rfl, den_val_mk _, _, _, rfl, den_val_mk _, rfl⟩
    · rename_i e ks cs he hr
      cases ok with
      | true => cases hc
      | false =>
        simp only [cond_false] at hc
        split at hc
        · rename_i x hx
          obtain ⟨rfl, rfl, rfl⟩ := yes_inj hc
          obtain ⟨bk, us, hβ, hl, hw, hd⟩ := (hm.ok r _ (hhp r _ hr)).2
          obtain ⟨kt, hu, hkt, hna⟩ := mapTy_un hcx he
          obtain ⟨u, h1, h2⟩ := findK_spec hx hl hd
          have h3 := run_look_some t kt e hu hkt hw.mapI z h1
          refine .of_run (u := u) (W' := g.W) ?_ (good_same hm h2)
          simp [execOp, hop, q1, q2, row_map d1 hβ, den_val d2, h3, Result.andThen]
        · cases hc
    · cases hc
  · cases hc
theorem lenM_one {t : Nat} (hc : cLenT cx t hp ins = some (ps, v, hs)) : ∃ x, ins = [x] := by
  unfold cLenT at hc
  split at hc
  · rename_i z hz
    unfold cLen at hz
    split at hz
    · exact ⟨_, rfl⟩
    · exact ⟨_, rfl⟩
    · exact ⟨_, rfl⟩
    · cases hz
  · split at hc
    · rename_i z hz
      unfold cLenS at hz
      split at hz
      · exact ⟨_, rfl⟩
      · cases hz
    · unfold cLenM at hc
      split at hc
      · exact ⟨_, rfl⟩
      · cases hc
theorem eff_lenM (hcx : CxOk P cx) (hm : MOk w0 G0 g H) (hin : DenL g ins vs) (hhp : ∀ r o, hp r = some o → H r = some o) {t : Nat} (hc : cLenT cx t hp ins = some (ps, v, hs)) (hps : allP ps) {c : Call} {x : Operand} (hop : o.op = .call c) (hb : c.callee = .builtin .len) (ht : c.argTypes = #[t]) (ha : c.args = #[x]) (hv : [ρ x] = vs) :
    Eff P ρ o g.W (Good w0 G0 g nm (updH H hs) v) := by
  unfold cLenT at hc
  split at hc
  · rename_i z hz
    rw [hc] at hz
    exact eff_len hcx hm hin hhp hz hop hb ht ha hv
  · split at hc
    · rename_i z hz
      rw [hc] at hz
      exact eff_lenT hcx hm hin hhp hz hop hb ht ha hv
    · unfold cLenM at hc
      split at hc
      · rename_i r _ _
        split at hc
        · rename_i e ks he hr
          simp only [Option.some.injEq, Prod.mk.injEq] at hc
          obtain ⟨rfl, rfl, rfl⟩ := hc
          obtain ⟨u, e1, hd⟩ := denL1 hin
          rw [← hv] at e1
          cases e1
          obtain ⟨bk, hβ, hw⟩ := (hm.ok r _ (hhp r _ hr)).2
          obtain ⟨kt, hu, hkt, hna⟩ := mapTy_un hcx he
          obtain ⟨es, clock, hh, hsz⟩ := hw.cnt
          have hx := row_map hd hβ
          have hn : es.size = ks.length := by rw [hsz]; simp [setV]
          refine .of_run (u := .int .i64 ks.length) (W' := g.W) ?_ (good_same hm (den_val_mk _))
          have hg : (getObj bk).run P g.W = .ok (.map es clock) g.W := by simp [getObj, Sem.run, hh]
          simp [execOp, hop, resolve, hb, ht, ha, invoke, builtin, Builtin.len_, hx, run_underlying hu, hg, hn, goInt, Result.andThen]
        · cases hc
      · cases hc
theorem eff_binT (hcx : CxOk P cx) (hm : MOk w0 G0 g H) (hin : DenL g ins vs) {t t' : Nat} {op : BinOp} {x y : Operand} (hc : cBinT cx op t y ins = some (ps, v, hs)) (hps : allP ps) (hop : o.op = .binOp op t x y t') (hv : [ρ x, ρ y] = vs) :
    Eff P ρ o g.W (Good w0 G0 g nm (updH H hs) v) := by
  unfold cBinT at hc
  split at hc
  · rename_i r hr
    cases hc
    exact eff_bin hcx hm hin hr hps hop hv
  · unfold cErr at hc
    split at hc
    · rename_i b _
      split at hc
      · rename_i td htd _
        cases hk : Nat.beq td.ik 11 with
        | false => rw [hk] at hc; cases hc
        | true =>
          rw [hk] at hc
          simp only [cond_true] at hc
          obtain ⟨rfl, rfl, rfl⟩ := yes_inj hc
          obtain ⟨u, u', e, hd, hd'⟩ := denL2 hin
          rw [← hv] at e
          simp only [List.cons.injEq, and_true] at e
          obtain ⟨e1, e2⟩ := e
          rw [den_val hd'] at e2
          obtain ⟨d, hu, hdd⟩ := (hcx.ty t td htd).desc
          have hik : (descOf d).2.2.2.2 = 11 := by rw [hdd]; exact Nat.eq_of_beq_eq_true hk
          have hi : P.underlying t = some (.interface (P.methodsAt t)) := by
            cases d with
            | interface ms => rw [hu]; simp [Program.methodsAt, hu]
            | int k => cases k <;> simp [descOf, kNo] at hik
            | array n e => simp [descOf] at hik; omega
            | _ => simp [descOf] at hik
          simp only [Den] at hd
          cases b with
          | true =>
            simp only [if_true] at hd
            obtain ⟨te, pe, rfl⟩ := hd
            refine .of_run (u := .bool true) (W' := g.W) ?_ (good_same hm (den_val_mk _))
            have h1 := run_neq_held_nil (P := P) (w := g.W) t te pe hi
            simp [execOp, hop, e1, e2, h1, Result.andThen, eqGuard]
          | false =>
            simp only [Bool.false_eq_true, if_false] at hd
            subst hd
            refine .of_run (u := .bool false) (W' := g.W) ?_ (good_same hm (den_val_mk _))
            have h1 := run_neq_nil_nil (P := P) (w := g.W) t hi
            simp [execOp, hop, e1, e2, h1, Result.andThen, eqGuard]
      · cases hc
    · cases hc
end
end Go.Proofs.YtbpbndlgfiammaaGreatDoor.En
