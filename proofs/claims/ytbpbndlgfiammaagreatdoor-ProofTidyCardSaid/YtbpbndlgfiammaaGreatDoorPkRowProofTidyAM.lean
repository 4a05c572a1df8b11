/- Lemmas and contracts for the row. -/
import Derived.Test.YtbpbndlgfiammaaGreatDoorPkRowProofTidyT
import Derived.Test.YtbpbndlgfiammaaGreatDoorPkRowProofTidyU
import Derived.Test.YtbpbndlgfiammaaGreatDoorPkRowProofTidyAL
import Derived.Test.YtbpbndlgfiammaaGreatDoorPkRowProofTidyAI
import Derived.Lib.BufferKept
import Derived.Lib.AppendIntMem
set_option linter.unusedVariables false
set_option linter.unusedSimpArgs false
set_option linter.unnecessarySimpa false
namespace Go.Proofs.YtbpbndlgfiammaaGreatDoor.En
open Go Go.RowKit Go.Shelf
theorem pow10_tab {W : World} {G : Nat → Prop} (hgl : GlOk (g0 W G)) : Lib.TabIs Tryz.prog W "internal/strconv.uint64pow10" .u64 Lib.pow10Tab := by
  obtain ⟨t, m, h⟩ := ((hgl 1 (g_pow10.map (Value.int .u64)) rfl).2.1 rfl).2
  unfold Lib.TabIs World.var?
  rw [show Tryz.prog.globalNamed "internal/strconv.uint64pow10" = some 1 by kernel_rfl]
  show (match W.heap[1]? with | some (.cells cs _ _) => some cs | _ => none) = _
  rw [show W.heap[1]? = _ from h]
  rfl
theorem maxLen_cell {W : World} {G : Nat → Prop} (hgl : GlOk (g0 W G)) : ∃ n, W.cell? ⟨0, 0, none⟩ = some (.int .i64 n) := (hgl 0 [] rfl).2.2.1 rfl
theorem syntax_cell {W : World} {G : Nat → Prop} (hgl : GlOk (g0 W G)) : ∃ te pe, W.cell? ⟨2, 0, none⟩ = some (.iface te pe) := (hgl 2 [] rfl).2.2.2 rfl
theorem range_cell {W : World} {G : Nat → Prop} (hgl : GlOk (g0 W G)) : ∃ te pe, W.cell? ⟨3, 0, none⟩ = some (.iface te pe) := (hgl 3 [] rfl).2.2.2 rfl
def sItoa1 : CtF1
  | [.im (.val (.int .i64 n))] => some (Fit n, .im (.val (.string (strOfNums (Cn.itoaI n)))))
  | _ => none
theorem sItoa1_sound : Sound1G Tryz.prog 90 sItoa1 := by
  refine ⟨run_enters Tryz.func90 (by kernel_rfl) rfl, fun W G args vs p r hG hgl hσ hp hd => ?_⟩
  unfold sItoa1 at hσ
  split at hσ
  · rename_i n
    injection hσ with hσ
    injection hσ with h1 h2
    subst h1 h2
    obtain ⟨v, rfl, hv⟩ := denL1 hd
    rw [den_val hv]
    refine (Any.strconv_Itoa Tryz.shItoa n hp.1 hp.2 W (pow10_tab hgl)).mono fun e w' he => ?_
    obtain ⟨rfl, k, os, rfl⟩ := he
    refine ⟨_, rfl, Lib.below_grow _ W (Nat.le_refl _) k os, ?_⟩
    rw [← Cn.itoa_str]
    exact den_val_mk _
  · cases hσ
def sItoa : CtF := sItoa1.up
theorem sItoa_sound : Sound Tryz.prog 90 sItoa := sItoa1_sound.up
def sIndexS1 : CtF1
  | [.im (.val (.string s)), .im (.val (.string t))] => some (s.size ≤ 4294967280, .int (Lib.index s.data.toList t.data.toList))
  | _ => none
theorem sIndexS1_sound : Sound1G Tryz.prog 88 sIndexS1 := by
  refine ⟨run_enters Tryz.func88 (by kernel_rfl) rfl, fun W G args vs p r hG hgl hσ hp hd => ?_⟩
  unfold sIndexS1 at hσ
  split at hσ
  · rename_i s t
    injection hσ with hσ
    injection hσ with h1 h2
    subst h1 h2
    obtain ⟨v, u, rfl, hv, hu⟩ := denL2 hd
    rw [den_val hv, den_val hu]
    obtain ⟨m, hm⟩ := maxLen_cell hgl
    refine (Any.strings_Index Tryz.shIndex s t m W (by omega) hm).mono fun e w' he => ?_
    obtain ⟨rfl, rfl⟩ := he
    exact ⟨_, rfl, Below.refl _ _, den_val_mk _⟩
  · cases hσ
def sIndexS : CtF := sIndexS1.up
theorem sIndexS_sound : Sound Tryz.prog 88 sIndexS := sIndexS1_sound.up
def sAtoi1 : CtF1
  | [.im (.val (.string s))] => some (s.size ≤ 281474976710656, .tup [.int (Cn.atoiV s.data.toList).1, .err (Cn.atoiV s.data.toList).2])
  | _ => none
theorem den_err {g : Gh} {n : Int} {b : Bool} {v : Value} (h : if b = true then ∃ te pe, v = .iface te pe else v = .nilIface) : Den g (.tup [.int n, .err b]) (.tuple #[.int .i64 n, v]) := by
  simp only [Den, DenL]
  exact ⟨[.int .i64 n, v], rfl, _, _, rfl, .val _, _, _, rfl, h, rfl⟩
theorem sAtoi1_sound : Sound1G Tryz.prog 89 sAtoi1 := by
  refine ⟨run_enters Tryz.func89 (by kernel_rfl) rfl, fun W G args vs p r hG hgl hσ hp hd => ?_⟩
  unfold sAtoi1 at hσ
  split at hσ
  · rename_i s
    injection hσ with hσ
    injection hσ with h1 h2
    subst h1 h2
    obtain ⟨v, rfl, hv⟩ := denL1 hd
    rw [den_val hv]
    unfold Cn.atoiV
    cases ha : Lib.atoiAll s.data.toList with
    | ok n =>
      refine (Any.strconv_Atoi_ok Tryz.shAtoi s (by omega) n ha W).mono fun e w' he => ?_
      obtain ⟨rfl, hw⟩ := he
      refine ⟨_, rfl, ?_, den_err (by simp)⟩
      rcases hw with rfl | ⟨t, rfl⟩
      · exact Below.refl _ _
      · exact bytesWorld_bel W _ t
    | «syntax» =>
      obtain ⟨te, pe, hc⟩ := syntax_cell hgl
      refine (Any.strconv_Atoi_syntax Tryz.shAtoi s hp ha _ W hc (.inr ⟨te, pe, rfl⟩)).mono fun e w' he => ?_
      obtain ⟨N, rfl, _, _, hb⟩ := he
      exact ⟨_, rfl, hb, den_err (by simp)⟩
    | range =>
      obtain ⟨te, pe, hc⟩ := range_cell hgl
      refine (Any.strconv_Atoi_range Tryz.shAtoi s hp ha _ W hc (.inr ⟨te, pe, rfl⟩)).mono fun e w' he => ?_
      obtain ⟨N, rfl, _, _, hb⟩ := he
      exact ⟨_, rfl, hb, den_err (by simp)⟩
  · cases hσ
def sAtoi : CtF := sAtoi1.up
theorem sAtoi_sound : Sound Tryz.prog 89 sAtoi := sAtoi1_sound.up
def sSplit : CtF := fun args os => match args, os with
  | [.im (.val (.string s)), .im (.val (.string t))], [] => some (s.size ≤ 1000000 ∧ t = ⟨#[32]⟩, .row 0, [some (.row 9 (.strs ((Cn.splitI 32 (bytesI s)).map strOfNums)))])
  | _, _ => none
theorem sSplit_sound : Sound Tryz.prog 87 sSplit := by
  refine sound_newR (e := 9) (run_enters Tryz.func87 (by kernel_rfl) rfl) fun args os p r outs h => ?_
  unfold sSplit at h
  split at h
  · rename_i s t
    injection h with h
    injection h with h1 h
    injection h with h2 h3
    subst h1 h2 h3
    have hwl : (LD.strs ((Cn.splitI 32 (bytesI s)).map strOfNums)).len = (Cn.splitI 32 (bytesI s)).length := List.length_map ..
    have hcl := (Cn.splitI_len 32 (bytesI s)).1
    rw [bytesI_len] at hcl
    refine ⟨_, rfl, rfl, rfl, rfl, fun hp => ⟨by rw [hwl]; unfold maxLen; omega, fun W G vs hG hgl hd => ?_⟩⟩
    obtain ⟨hp1, hp2⟩ := hp
    subst hp2
    obtain ⟨v, u, rfl, hv, hu⟩ := denL2 hd
    rw [den_val hv, den_val hu]
    obtain ⟨m, hm⟩ := maxLen_cell hgl
    have hsp := Cn.split_is s.size s (Nat.le_refl _)
    have hcn := Lib.splitB_all ⟨#[32]⟩ (by decide) 0 _ s rfl
    rw [hsp, List.length_map] at hcn
    refine (Any.strings_Split Tryz.shSplit (by kernel_rfl) s ⟨#[32]⟩ m W (by omega) hm (by decide)).mono fun e w' he => ?_
    obtain ⟨rfl, rfl⟩ := he
    rw [hsp, ← hcn]
    refine ⟨_, ((Cn.splitI 32 (bytesI s)).map strOfNums).map Value.string, rfl, .inr ⟨W.heap.size, 0, _, _, by rw [List.length_map, List.length_map], .mk0 (heap_alloc_new _ _), ?_, ?_, ?_, fun j hj => ?_⟩, ?_, fun i hi => ?_, ((Below.refl _ W).alloc (Nat.le_refl _) _), fun g hg => ?_⟩
    · simp only [List.length_map]; exact Nat.le_refl _
    · unfold maxLen; omega
    · simp
    · simp at hj
      simp [hj]
    · rw [hwl]; simp
    · rw [hwl] at hi
      show Rep W G (.val (.string (((Cn.splitI 32 (bytesI s)).map strOfNums).getD i ByteArray.empty))) _
      have e : (((Cn.splitI 32 (bytesI s)).map strOfNums).map Value.string).getD i undef = .string (((Cn.splitI 32 (bytesI s)).map strOfNums).getD i ByteArray.empty) := by
        rw [List.getD_eq_getElem?_getD, List.getD_eq_getElem?_getD, List.getElem?_map, List.getElem?_map, List.getElem?_eq_getElem hi]; rfl
      rw [e]
      exact .val _
    · simp [Value.ownBlock] at hg; omega
  · cases h
end Go.Proofs.YtbpbndlgfiammaaGreatDoor.En
namespace Go.Proofs.YtbpbndlgfiammaaGreatDoor.En
open Go Go.RowKit Go.Shelf
def takeF (σ : CtF1) : CtF := fun args os => bif pureL (lend (objsH os) args) then (match σ (lend (objsH os) args) with | some (p, r) => (bif pureL [r] then some (p, r, os.map fun _ => none) else none) | none => none) else none
theorem outs_none {os : List AObj} {x : Nat} {o : AObj} : outsH (os.map fun _ => none) x ≠ some o := by
  intro h
  unfold outsH at h
  rw [List.getElem?_map] at h
  cases hx : os[x]? <;> rw [hx] at h <;> simp at h
theorem Sound1G.take {P : Program} {f : Nat} {σ : CtF1} (h : Sound1G P f σ) : Sound P f (takeF σ) := by
  refine ⟨h.1, fun g args os vs p r outs hσ hp hm hU hd => ?_⟩
  unfold takeF at hσ
  cases hb : pureL (lend (objsH os) args) with
  | false => rw [hb] at hσ; cases hσ
  | true =>
    rw [hb] at hσ
    simp only [cond_true] at hσ
    split at hσ
    · rename_i p' r' hs
      cases hr : pureL [r'] with
      | false => rw [hr] at hσ; cases hσ
      | true =>
        rw [hr] at hσ
        simp only [cond_true, Option.some.injEq, Prod.mk.injEq] at hσ
        obtain ⟨rfl, rfl, rfl⟩ := hσ
        let G2 : Nat → Prop := fun b => g.G b ∨ ∃ r o, objsH os r = some o ∧ blkOf (g.β r) = some b
        have hG2 : ∀ b, G2 b → b < g.W.heap.size := fun b hb => by
          rcases hb with hb | ⟨r, o, ho, hb⟩
          · exact (hm.gb b hb).1
          · exact (hm.ok r o ho).2.lt hb
        have hin2 : DenL ⟨g.W, G2, fun _ => undef, fun _ => False⟩ (lend (objsH os) args) vs := DenL.pure (g := lentG (objsH os) g) (g' := ⟨g.W, G2, fun _ => undef, fun _ => False⟩) rfl rfl _ _ hb (lend_den (fun _ _ h => h) hm args vs hd)
        refine Calls.mono (h.2 g.W G2 _ vs _ _ hG2 (fun k xs hk => ⟨.inl (hm.anc.2 k xs hk).1, (hm.anc.2 k xs hk).2⟩) hs hp hin2) fun e W' he => ?_
        obtain ⟨u, rfl, hbel, hdr⟩ := he
        let g' : Gh := ⟨W', fun b => G2 b ∨ (g.W.heap.size ≤ b ∧ b < W'.heap.size), g.β, g.U⟩
        have hle : g.le g' := ⟨fun b hg => hbel.block b (hm.gb b hg).1, fun _ hg => .inl (.inl hg), fun r hr => ⟨hr, rfl⟩⟩
        refine ⟨u, g', rfl, rfl, hle, ⟨fun r o hr => absurd hr outs_none, fun r r' o o' b hr => absurd hr outs_none, fun r o b hr => absurd hr outs_none, fun b hg => ?_, ⟨hbel.os, hbel.tape, hbel.output, hbel.size, fun k hk _ => hbel.block k hk⟩, hm.anc.1, hm.anc.2.up hle⟩, ?_⟩
        · rcases hg with hg | hg
          · refine ⟨Nat.lt_of_lt_of_le (hG2 b hg) hbel.size, ?_⟩
            rcases hg with hg | ⟨r, o, ho, hb⟩
            · exact .inl hg
            · exact .inr (hm.own r o b ho hb).2
          · exact ⟨hg.2, .inr (.inl hg.1)⟩
        · have := DenL.pure (g := ⟨W', fun b => G2 b ∨ (g.W.heap.size ≤ b ∧ b < W'.heap.size), fun _ => undef, fun _ => False⟩) (g' := g') rfl rfl [r'] [u] hr (by simp only [DenL]; exact ⟨u, [], rfl, hdr, rfl⟩)
          simp only [DenL] at this
          obtain ⟨_, _, e, q, _⟩ := this
          cases e
          exact q
    · cases hσ
def sCut1 : CtF1
  | [.im (.ls (.bytes b)), .im (.ls (.bytes s))] => some (0 < b.length ∧ b.length ≤ 1000000 ∧ Cn.isBytes b ∧ s = [10], .tup [.bytes (Cn.cutN b).1, .bytes (Cn.cutN b).2.1, .bool (Cn.cutN b).2.2])
  | _ => none
theorem bytes_at {W : World} {G : Nat → Prop} {xs : List Int} {v : Value} (h : Rep W G (.ls (.bytes xs)) v) (h0 : 0 < xs.length) :
    ∃ b off c, v = .slice (some ⟨b, off, none⟩) xs.length c ∧ xs.length ≤ c ∧ xs.length ≤ maxLen ∧ G b ∧ ∀ i, i < xs.length → W.cell? ⟨b, off + i, none⟩ = some (.int .u8 (xs.getD i 0)) := by
  rcases h.cases_ls with ⟨h1, _⟩ | ⟨b, off, c, u, rfl, h1, h2, h3, h4, h5⟩
  · have : xs.length = 0 := h1
    omega
  · refine ⟨b, off, c, rfl, h1, h2, h3, fun i hi => ?_⟩
    have h6 := h4 i 0 hi Nat.one_pos
    have h7 : Rep W G (.val (.int .u8 (xs.getD i 0))) (u i 0) := h5 i 0 hi Nat.one_pos
    have h8 : u i 0 = .int .u8 (xs.getD i 0) := den_val (g := g0 W G) (by simp only [Den]; exact h7)
    rw [h8] at h6
    have e : off + i * (LD.bytes xs).st + 0 = off + i := by show off + i * 1 + 0 = _; omega
    rw [e] at h6
    exact h6
theorem rep_bytes {W : World} {G : Nat → Prop} {xs : List Int} {b off c : Nat} (hc : xs.length ≤ c) (hm : xs.length ≤ maxLen) (hG : G b) (h : ∀ i, i < xs.length → W.cell? ⟨b, off + i, none⟩ = some (.int .u8 (xs.getD i 0))) : Rep W G (.ls (.bytes xs)) (.slice (some ⟨b, off, none⟩) xs.length c) :=
  .ls (.bytes xs) b off c (fun i _ => .int .u8 (xs.getD i 0)) hc hm hG (fun i j hi hj => by
    have hj0 : j = 0 := by have : (LD.bytes xs).st = 1 := rfl; omega
    subst hj0
    have e : off + i * (LD.bytes xs).st + 0 = off + i := by show off + i * 1 + 0 = _; omega
    rw [e]; exact h i hi) (fun i j hi hj => .val _)
theorem sCut1_sound : Sound1G Tryz.prog 57 sCut1 := by
  refine ⟨run_enters Tryz.func57 (by kernel_rfl) rfl, fun W G args vs p r hG hgl hσ hp hd => ?_⟩
  unfold sCut1 at hσ
  split at hσ
  · rename_i xs sp
    injection hσ with hσ
    injection hσ with h1 h2
    subst h1 h2
    obtain ⟨hp1, hp2, hp3, rfl⟩ := hp
    obtain ⟨v, u, rfl, hv, hu⟩ := denL2 hd
    simp only [Den] at hv hu
    obtain ⟨b, off, c, rfl, hc1, hc2, hc3, hc4⟩ := bytes_at hv hp1
    obtain ⟨b2, off2, c2, rfl, hd1, hd2, hd3, hd4⟩ := bytes_at hu (by decide)
    obtain ⟨m, hm⟩ := maxLen_cell hgl
    have hcut := Any.bytes_Cut_all Tryz.shCut (some ⟨b, off, none⟩) (some ⟨b2, off2, none⟩) xs.length c 1 c2 xs [10] m W rfl rfl hp3 (fun y hy => by rw [List.mem_singleton] at hy; omega)
      (Lib.BytesIn.of_cells fun i hi => by rw [add_mk]; exact hc4 i hi) (Lib.BytesIn.of_cells fun i hi => by rw [add_mk]; exact hd4 i hi) (fun h => by cases h) hc1 (by omega) (by omega) hm
    refine Calls.mono hcut fun e w' he => ?_
    obtain ⟨rfl, q, rfl⟩ := he
    have hbel : Below W.heap.size W (W.drewN q) := ⟨rfl, rfl, rfl, Nat.le_refl _, fun _ _ => rfl⟩
    have hb10 : Lib.bytesOf [10] = [10] := rfl
    rw [hb10]
    have fin : ∀ {v1 v2 : Value} {f : Bool} {x1 x2 : List Int}, Rep W G (.ls (.bytes x1)) v1 → Rep W G (.ls (.bytes x2)) v2 → Cn.cutN xs = (x1, x2, f) → ∀ G', (∀ b, G b → G' b) →
        Den ⟨W.drewN q, G', fun _ => undef, fun _ => False⟩ (.tup [.bytes (Cn.cutN xs).1, .bytes (Cn.cutN xs).2.1, .bool (Cn.cutN xs).2.2]) (.tuple #[v1, v2, .bool f]) := by
      intro v1 v2 f x1 x2 r1 r2 e G' hG'
      rw [e]
      simp only [Den, DenL]
      exact ⟨[v1, v2, .bool f], rfl, _, _, rfl, Rep.mono (W := W) (W' := W.drewN q) (fun _ _ => rfl) hG' r1, _, _, rfl, Rep.mono (W := W) (W' := W.drewN q) (fun _ _ => rfl) hG' r2, _, _, rfl, .val _, rfl⟩
    rcases Cn.cut_index hp3 with ⟨h1, h2⟩ | ⟨a, r, h1, h2, h3⟩
    · rw [h1]
      refine ⟨_, rfl, hbel, fin (rep_bytes hc1 hc2 hc3 hc4) (.nil (.bytes []) none 0 rfl) (Cn.cut_miss h2) _ (fun _ h => .inl h)⟩
    · rw [h3]
      have hl : xs.length = a.length + 1 + r.length := by rw [h1]; simp; omega
      have hV : Lib.cutV (some ⟨b, off, none⟩) xs.length c 1 (a.length : Int) = .tuple #[.slice (some ⟨b, off, none⟩) a.length c, Lib.fromV (some ⟨b, off, none⟩) xs.length c (a.length + 1), .bool true] := by
        unfold Lib.cutV; rw [if_pos (by omega)]; rfl
      rw [hV]
      refine ⟨_, rfl, hbel, fin ?_ ?_ (by rw [h1]; exact Cn.cut_hit h2) _ (fun _ h => .inl h)⟩
      · refine rep_bytes (by omega) (by omega) hc3 fun i hi => ?_
        rw [hc4 i (by omega), h1]
        simp [List.getD, List.getElem?_append_left hi]
      · unfold Lib.fromV
        have e1 : xs.length - (a.length + 1) = r.length := by omega
        rw [e1]
        by_cases h0 : r.length = 0
        · rw [h0]
          exact .nil (.bytes r) _ _ h0
        · rw [if_neg (by omega)]
          have e2 : Option.map (fun x : Addr => x.add (a.length + 1)) (some ⟨b, off, none⟩) = some ⟨b, off + (a.length + 1), none⟩ := by rw [Option.map_some, add_mk]
          rw [e2]
          refine rep_bytes (by omega) (by omega) hc3 fun i hi => ?_
          rw [show off + (a.length + 1) + i = off + (a.length + 1 + i) by omega, hc4 _ (by omega), h1]
          simp [List.getD, List.getElem?_append_right (show a.length ≤ a.length + 1 + i by omega), show a.length + 1 + i - a.length = i + 1 by omega]
  · cases hσ
def sCut : CtF := takeF sCut1
theorem sCut_sound : Sound Tryz.prog 57 sCut := sCut1_sound.take
end Go.Proofs.YtbpbndlgfiammaaGreatDoor.En
namespace Go.Proofs.YtbpbndlgfiammaaGreatDoor.En
open Go Go.RowKit Go.Shelf Go.Sort
theorem info_u8 : (Tryz.prog.info? 5).map (fun i => (i.zero, i.size, i.bytes)) = some (some (.int .u8 0), 1, 1) := by kernel_rfl
theorem ty_u8 : TyOk Tryz.prog 5 ⟨1, false, [.int .u8 0], [], none, 1, false, 2, 0⟩ := ⟨by kernel_rfl, by kernel_rfl, by kernel_rfl⟩
theorem wpList_appendS {P : Program} {w : World} {ops : Array Oper} {rest : List Oper} {o : Oper} {a : Act} {Q : Exit → Act → World → Prop} (hgd : o.guard = none) (s x : Operand) (t tx : TypeId)
    (ho : o.op = .call { callee := .builtin .append, args := #[s, x], argTypes := #[t, tx] })
    (e : TypeId) (ed : TD) (ht : P.underlying t = some (.slice e)) (htx : P.underlying tx = some .string) (hed : TyOk P e ed) (h1 : ed.size = 1) (hz1 : ed.zero.length = 1) (hb1 : ed.bytes = 1)
    (v : Value) (xs : List Value) (n : Nat) (hlen : xs.length = n) (hs : a.eval s = v) (hown : Own w e v xs) (z : ByteArray) (hx : a.eval x = .string z) (hbytes : n + z.size ≤ 140737488355328)
    (h : ∀ A' cap w', Own w' e (.slice A' (n + z.size) cap) (xs ++ Lib.strCells z) → w.grownBy w' v.ownBlock → (∀ g, (Value.slice A' (n + z.size) cap).ownBlock = some g → v.ownBlock = some g ∨ g = w.heap.size) →
      wpList P ops Q rest (a.put o.dst (.slice A' (n + z.size) cap)) w') : wpList P ops Q (o :: rest) a w := by
  refine wpList_plain hgd fun _ hK => ?_
  obtain ⟨v', W', hr, h2, h3, h4⟩ := run_appendS (P := P) w (ty := o.type) ht htx hed h1 hz1 (by omega) hown z (by rw [hlen, hb1]; omega)
  obtain ⟨A', cap, hf, _⟩ := h2.form
  have hl : (xs ++ Lib.strCells z).length = n + z.size := by rw [List.length_append, hlen, Lib.strCells_length]
  rw [hl] at hf
  subst hf
  unfold Oper.wp execOp
  simp only [ho, resolve, invoke, builtin, Sem.run_bind, Sem.run_pure, Result.andThen_ok, List.map_toArray, List.map_cons, List.map_nil, hs, hx, hr]
  exact hK _ _ (h A' cap W' h2 h3 h4)
set_option maxRecDepth 100000 in
set_option maxHeartbeats 800000 in
theorem appU_small {v : Value} {us : List Value} {n : Nat} {w : World} (u : Nat) (hu : u < 100) (hn : us.length = n) (hown : Own w 5 v us) (hlim : n + 20 ≤ 140737488355328) :
    Calls Tryz.prog 111 #[v, .int .u64 u, .int .i64 10] w fun e w' => ∃ A cap, e = .returned (.slice A (n + Lib.nDigits u) cap) ∧ Own w' 5 (.slice A (n + Lib.nDigits u) cap) (us ++ Lib.byteCells (Lib.decDigits u)) ∧ w.grownBy w' v.ownBlock ∧ ∀ b, (Value.slice A (n + Lib.nDigits u) cap).ownBlock = some b → v.ownBlock = some b ∨ w.heap.size ≤ b := by
  have hsm := Any.internal_strconv_small { Tryz.shAppU with } u hu w
  have hsz : (⟨(Lib.decDigits u).toArray⟩ : ByteArray).size = Lib.nDigits u := by rw [← Lib.decDigits_length]; simp [ByteArray.size]
  have hnd : Lib.nDigits u ≤ 20 := by
    by_cases h10 : u < 10
    · rw [Lib.nDigits_small h10]; omega
    · rw [Lib.nDigits_big h10, Lib.nDigits_small (show u / 10 < 10 by omega)]; omega
  have hcl : Lib.strCells ⟨(Lib.decDigits u).toArray⟩ = Lib.byteCells (Lib.decDigits u) := by simp [Lib.strCells, Lib.byteCells]
  have HS := Lib.hid hsm
  have HO := Lib.hid hown
  have HN := Lib.hid hn
  have iu : (u : Int) < 100 := by omega
  clear hsm hown hn
  go_enter Tryz.func111, Tryz.ntmps111
  go_wp2_with (first
    | (go_at_call 131; refine HS.out.mono ?_; rintro e w' ⟨rfl, rfl⟩)
    | (at_builtin; refine wpList_appendS rfl _ _ 34 9 rfl 5 _ Tryz.underlying34 Tryz.underlying9 ty_u8 rfl rfl rfl _ us n HN.out rfl HO.out ⟨(Lib.decDigits u).toArray⟩ rfl (by rw [hsz]; omega) ?_))
  first | rw [hsz, hcl] | skip
  intro A' cap w1 h1 h2 h3
  have H1 := Lib.hid h1
  have H2 := Lib.hid h2
  have H3 := Lib.hid h3
  clear h1 h2 h3
  go_wp2
  go_ret
  exact ⟨A', cap, rfl, H1.out, H2.out, fun b hb => (H3.out b hb).imp id fun e => by omega⟩
set_option maxRecDepth 100000 in
set_option maxHeartbeats 1600000 in
theorem appU_big {v : Value} {us : List Value} {n : Nat} {w : World} (u : Nat) (hu : 100 ≤ u) (hu64 : u < 18446744073709551616) (hn : us.length = n) (hown : Own w 5 v us) (hlim : n + 20 ≤ 140737488355328)
    (htab : Lib.TabIs Tryz.prog w "internal/strconv.uint64pow10" .u64 Lib.pow10Tab) :
    Calls Tryz.prog 111 #[v, .int .u64 u, .int .i64 10] w fun e w' => ∃ A cap, e = .returned (.slice A (n + Lib.nDigits u) cap) ∧ Own w' 5 (.slice A (n + Lib.nDigits u) cap) (us ++ Lib.byteCells (Lib.decDigits u)) ∧ w.grownBy w' v.ownBlock ∧ ∀ b, (Value.slice A (n + Lib.nDigits u) cap).ownBlock = some b → v.ownBlock = some b ∨ w.heap.size ≤ b := by
  obtain ⟨i0, hi, hz0, hz1, hz2⟩ := info_ofL info_u8
  have hu1 : 1 ≤ u := by omega
  have hnd20 : Lib.nDigits u ≤ 20 := by have := Lib.numDigits_eq u hu1 hu64; split at this <;> omega
  have hal : Tryz.prog.arrayLen 138 = 24 := by kernel_rfl
  have hsl : ∀ W, (Instr.sliceAt 138 (.pointer (some ⟨w.heap.size, 0, none⟩)) none (some (.int .i64 (Lib.nDigits u : Int))) none).run Tryz.prog W = .ok (.slice (some ⟨w.heap.size, 0, none⟩) (Lib.nDigits u) 24) W := fun W => by
    rw [run_sliceAt_array_h W 138 ⟨w.heap.size, 0, none⟩ (by kernel_rfl) .i64 (Lib.nDigits u : Int) (by omega) (by rw [hal]; omega)]
    go_simp
  have hH0 := Lib.holds_zero0 w 138 (Lib.nDigits u) (by omega)
  have hfmt := Any.internal_strconv_formatBase10 { Tryz.shAppU with } w.heap.size 0 24 u (Array.replicate (Lib.nDigits u) 0) (w.alloc (.cells Lib.zeros24 138)) hH0 (by rw [Array.size_replicate]; exact Lib.lt_pow_nDigits u) hu64 (by rw [Array.size_replicate]; omega)
  rw [Array.size_replicate] at hfmt
  have hnum := Any.internal_strconv_numDigits { Tryz.shAppU with } u hu1 hu64 _ (Lib.tabIs_alloc htab (.cells Lib.zeros24 138))
  have HH0 := Lib.hid hH0
  have HF := Lib.hid hfmt
  have HM := Lib.hid hnum
  have HO := Lib.hid hown
  have HN := Lib.hid hn
  have iu : (100 : Int) ≤ (u : Int) := by omega
  clear hH0 hal hfmt hnum hown hn htab
  go_enter Tryz.func111, Tryz.ntmps111
  go_wp2_with (go_at_call 132; refine HM.out.mono ?_; rintro e w' ⟨rfl, rfl⟩)
  go_at_call 133
  refine HF.out.mono ?_
  rintro e w' ⟨rfl, k, v', dk, rfl, hF⟩
  have hcells : ∀ j u', (Lib.byteCells (Lib.decDigits u))[j]? = some u' → ((putRow (fun (b : UInt8) => Value.int .u8 (b.toNat : Int)) (w.alloc (.cells Lib.zeros24 138)) w.heap.size 0 dk).drewN k).cell? ((⟨w.heap.size, 0, none⟩ : Addr).add j) = some u' := by
    intro j u' hj
    have hjl : j < (Lib.decDigits u).length := by
      have h5 := (List.getElem?_eq_some_iff.1 hj).1
      rwa [Lib.byteCells_length] at h5
    have e5 : (Lib.byteCells (Lib.decDigits u))[j]? = some (Value.int .u8 ((Lib.decDigits u)[j].toNat : Int)) := by simp [Lib.byteCells, hjl]
    rw [e5] at hj
    cases hj
    rw [Lib.row_is_numeral hF j hjl, Lib.add_plain, World.cell?_drewN]
    exact cell?_putRow (fun (b : UInt8) => Value.int .u8 (b.toNat : Int)) _ w.heap.size 0 _ dk HH0.out (by rw [hF.size, Array.size_replicate]) j (by rw [hF.size]; rw [Lib.decDigits_length] at hjl; exact hjl)
  obtain ⟨os, eo⟩ := Lib.fin_at w (.cells Lib.zeros24 138) dk k 0
  have hbel : Below w.heap.size w ((putRow (fun (b : UInt8) => Value.int .u8 (b.toNat : Int)) (w.alloc (.cells Lib.zeros24 138)) w.heap.size 0 dk).drewN k) := by rw [eo]; exact Lib.below_grow w.heap.size w (Nat.le_refl _) k os
  generalize (putRow (fun (b : UInt8) => Value.int .u8 (b.toNat : Int)) (w.alloc (.cells Lib.zeros24 138)) w.heap.size 0 dk).drewN k = W2 at hcells hbel ⊢
  have hown2 : Own W2 5 v us := HO.out.keep fun g hg => hbel.block g (HO.out.lt hg)
  have HO2 := Lib.hid hown2
  have HC := Lib.hid hcells
  have HB := Lib.hid hbel
  have HL := Lib.hid (show (Lib.byteCells (Lib.decDigits u)).length = Lib.nDigits u by rw [Lib.byteCells_length, Lib.decDigits_length])
  clear eo hown2 hcells hbel hF
  go_wp2_with (at_builtin; refine wpList_appendR _ rfl _ _ 34 rfl 5 i0 (.int .u8 0) 1 Tryz.underlying34 hi hz0 hz1 hz2 rfl _ us n HN.out rfl HO2.out (some ⟨w.heap.size, 0, none⟩) 24 (Lib.byteCells (Lib.decDigits u)) (Lib.nDigits u) HL.out rfl (.inr ⟨_, rfl, HC.out⟩) ?c2 (by unfold maxLen; omega) (by omega) ?_)
  case c2 => intro u' hu'; simp only [Lib.byteCells, List.mem_map] at hu'; obtain ⟨b, _, rfl⟩ := hu'; rfl
  intro A' cap w1 h1 h2 h3
  have H1 := Lib.hid h1
  have H2 := Lib.hid h2
  have H3 := Lib.hid h3
  clear h1 h2 h3
  go_wp2
  go_ret
  have hg2 : w.grownBy w1 v.ownBlock := ⟨H2.out.os.trans HB.out.os, H2.out.tape.trans HB.out.tape, H2.out.output.trans HB.out.output, Nat.le_trans HB.out.size H2.out.size, fun b hb hne => (H2.out.block b (Nat.lt_of_lt_of_le hb HB.out.size) hne).trans (HB.out.block b hb)⟩
  exact ⟨A', cap, rfl, H1.out, hg2, fun b hb => (H3.out b hb).imp id fun e => by have := HB.out.size; omega⟩
theorem appU {v : Value} {us : List Value} {n : Nat} {w : World} (u : Nat) (hu64 : u < 18446744073709551616) (hn : us.length = n) (hown : Own w 5 v us) (hlim : n + 20 ≤ 140737488355328)
    (htab : Lib.TabIs Tryz.prog w "internal/strconv.uint64pow10" .u64 Lib.pow10Tab) :
    Calls Tryz.prog 111 #[v, .int .u64 u, .int .i64 10] w fun e w' => ∃ A cap, e = .returned (.slice A (n + Lib.nDigits u) cap) ∧ Own w' 5 (.slice A (n + Lib.nDigits u) cap) (us ++ Lib.byteCells (Lib.decDigits u)) ∧ w.grownBy w' v.ownBlock ∧ ∀ b, (Value.slice A (n + Lib.nDigits u) cap).ownBlock = some b → v.ownBlock = some b ∨ w.heap.size ≤ b := by
  by_cases h : u < 100
  · exact appU_small u h hn hown hlim
  · exact appU_big u (by omega) hu64 hn hown hlim htab
theorem Own.allocO {w : World} {e : TypeId} {v : Value} {xs : List Value} (h : Own w e v xs) (o : Obj) : Own (w.alloc o) e v xs := h.keep fun g hg => Below.heap_alloc w o g (h.lt hg)
set_option maxRecDepth 100000 in
set_option maxHeartbeats 800000 in
theorem appI {v : Value} {us : List Value} {n : Nat} {w : World} (i : Int) (h0 : -9223372036854775808 ≤ i) (h1 : i ≤ 9223372036854775807) (hn : us.length = n) (hown : Own w 5 v us) (hlim : n + 21 ≤ 140737488355328)
    (htab : ∀ w', Below w.heap.size w w' ∨ (∃ r, w.grownBy w' r ∧ r = v.ownBlock) → Lib.TabIs Tryz.prog w' "internal/strconv.uint64pow10" .u64 Lib.pow10Tab) :
    Calls Tryz.prog 84 #[v, .int .i64 i, .int .i64 10] w fun e w' => ∃ A cap, e = .returned (.slice A (n + (Lib.itoa i).length) cap) ∧ Own w' 5 (.slice A (n + (Lib.itoa i).length) cap) (us ++ Lib.byteCells (Lib.itoa i)) ∧ w.grownBy w' v.ownBlock ∧ ∀ b, (Value.slice A (n + (Lib.itoa i).length) cap).ownBlock = some b → v.ownBlock = some b ∨ w.heap.size ≤ b := by
  obtain ⟨i0, hi, hz0, hz1, hz2⟩ := info_ofL info_u8
  have HT := Lib.hid htab
  clear htab
  by_cases hneg : i < 0
  · obtain ⟨u, rfl⟩ : ∃ u : Nat, i = -(u : Int) := ⟨i.natAbs, by omega⟩
    have hu1 : 1 ≤ u := by omega
    have hu64 : u < 18446744073709551616 := by omega
    have hwr : IntKind.u64.wrap (-IntKind.u64.wrap (-(u : Int))) = (u : Int) := by rw [IntKind.wrap_u64, IntKind.wrap_u64]; omega
    rw [Lib.itoa_neg u hu1]
    have HO := Lib.hid (Own.allocO hown (.cells #[.int .u8 45] 5))
    have HV := Lib.hid (fun g (hg : v.ownBlock = some g) => hown.lt hg)
    have HN := Lib.hid hn
    have hlen1 : (us ++ [Value.int .u8 45]).length = n + 1 := by simp [hn]
    have HL1 := Lib.hid hlen1
    have HND := Lib.hid (Lib.decDigits_length u)
    clear hown hn hlen1
    go_enter Tryz.func84, Tryz.ntmps84
    go_wp2_with (at_builtin; refine wpList_appendR _ rfl _ _ 34 rfl 5 i0 (.int .u8 0) 1 Tryz.underlying34 hi hz0 hz1 hz2 rfl _ us n HN.out rfl HO.out (some ⟨w.heap.size, 0, none⟩) 1 [Value.int .u8 45] 1 rfl rfl (.inr ⟨_, rfl, by intro j u' hj; match j, hj with | 0, hj => simp at hj; subst hj; simp [Addr.add]⟩) (by intro u' hu'; simp at hu'; subst hu'; rfl) (by unfold maxLen; omega) (by omega) ?_)
    intro A1 cap1 w1 k1 k2 k3
    have K1 := Lib.hid k1
    have K2 := Lib.hid k2
    have K3 := Lib.hid k3
    have K4 := Lib.hid (show w.grownBy w1 v.ownBlock from ⟨k2.os, k2.tape, k2.output, Nat.le_trans (by simp) k2.size, fun b hb hne => (k2.block b (by simp; omega) hne).trans (Below.heap_alloc w _ b hb)⟩)
    have K5 := Lib.hid (HT.out w1 (.inr ⟨_, K4.out, rfl⟩))
    clear k1 k2 k3
    go_wp2_with fail
    go_at_call 111
    refine (appU u hu64 HL1.out K1.out (by omega) K5.out).mono ?_
    rintro e w2 ⟨A2, cap2, rfl, q1, q2, q3⟩
    have Q1 := Lib.hid q1
    have Q2 := Lib.hid q2
    have Q3 := Lib.hid q3
    clear q1 q2 q3
    go_wp2_with fail
    go_ret
    have hw : ∀ b, (Value.slice A1 (n + 1) cap1).ownBlock = some b → v.ownBlock = some b ∨ w.heap.size ≤ b := fun b hb => (K3.out b hb).imp id fun e => by first | omega | (simp at e; omega)
    have e1 : n + ((Lib.decDigits u).length + 1) = n + 1 + Lib.nDigits u := by rw [HND.out]; omega
    have e2 : us ++ Lib.byteCells (45 :: Lib.decDigits u) = us ++ [Value.int .u8 45] ++ Lib.byteCells (Lib.decDigits u) := by simp [Lib.byteCells]
    rw [e1, e2]
    refine ⟨A2, cap2, rfl, Q1.out, ⟨Q2.out.os.trans K4.out.os, Q2.out.tape.trans K4.out.tape, Q2.out.output.trans K4.out.output, Nat.le_trans K4.out.size Q2.out.size, fun b hb hne => (Q2.out.block b (Nat.lt_of_lt_of_le hb K4.out.size) (fun e => ?_)).trans (K4.out.block b hb hne)⟩, fun b hb => ?_⟩
    · rcases hw b e.symm with h | h
      · exact hne h.symm
      · omega
    · rcases Q3.out b hb with h | h
      · exact hw b h
      · exact .inr (Nat.le_trans K4.out.size h)
  · obtain ⟨u, rfl⟩ : ∃ u : Nat, i = u := ⟨i.toNat, by omega⟩
    have hu64 : u < 18446744073709551616 := by omega
    rw [Lib.itoa_nonneg]
    have HO := Lib.hid hown
    have HN := Lib.hid hn
    have HND := Lib.hid (Lib.decDigits_length u)
    have K5 := Lib.hid (HT.out w (.inl (Below.refl _ _)))
    clear hown hn
    go_enter Tryz.func84, Tryz.ntmps84
    go_wp2_with fail
    go_at_call 111
    refine (appU u hu64 HN.out HO.out (by omega) K5.out).mono ?_
    rintro e w2 ⟨A2, cap2, rfl, q1, q2, q3⟩
    have Q1 := Lib.hid q1
    have Q2 := Lib.hid q2
    have Q3 := Lib.hid q3
    clear q1 q2 q3
    go_wp2_with fail
    first | go_ret | go_ret2
    rw [HND.out]
    exact ⟨A2, cap2, rfl, Q1.out, Q2.out, Q3.out⟩
def sAppI : CtF := fun args os => match args, os with
  | [.row 0, .im (.val (.int .i64 i)), .im (.val (.int .i64 b))], [.row 5 (.bytes xs)] => some (Fit i ∧ b = 10 ∧ xs.length + 21 ≤ 1000000000000, .row 1, [none, some (.row 5 (.bytes (xs ++ Cn.itoaI i)))])
  | _, _ => none
theorem sAppI_sound : Sound Tryz.prog 84 sAppI := by
  refine sound_rowR (e := 5) (run_enters Tryz.func84 (by kernel_rfl) rfl) fun args os p r outs h => ?_
  unfold sAppI at h
  split at h
  · rename_i i bs xs
    injection h with h
    injection h with h1 h
    injection h with h2 h3
    subst h1 h2 h3
    refine ⟨_, .bytes xs, .bytes (xs ++ Cn.itoaI i), rfl, rfl, rfl, rfl, rfl, rfl, rfl, fun hp => ⟨?_, fun W G v vs us hG hn hgl ho hul hrep hmx hd => ?_⟩⟩
    · obtain ⟨⟨hp1, hp2⟩, hp3, hp4⟩ := hp
      have := Cn.itoa_len hp1 hp2
      show (xs ++ Cn.itoaI i).length ≤ maxLen
      rw [List.length_append]; unfold maxLen; omega
    · obtain ⟨⟨hp1, hp2⟩, rfl, hp4⟩ := hp
      obtain ⟨u1, u2, rfl, d1, d2⟩ := denL2 hd
      rw [den_val d1, den_val d2]
      have hul' : us.length = xs.length := hul
      have hlen : (Lib.itoa i).length = (Cn.itoaI i).length := by unfold Cn.itoaI; rw [List.length_map]
      have htab : ∀ w', Below W.heap.size W w' ∨ (∃ r, W.grownBy w' r ∧ r = v.ownBlock) → Lib.TabIs Tryz.prog w' "internal/strconv.uint64pow10" .u64 Lib.pow10Tab := fun w' h => by
        have hgk := (hgl 1 (g_pow10.map (Value.int .u64)) rfl).1
        refine pow10_tab (G := fun b => G b ∧ w'.heap[b]? = W.heap[b]?) fun k ys hk => ?_
        obtain ⟨q1, q2⟩ := hgl k ys hk
        have hkk : w'.heap[k]? = W.heap[k]? := by
          rcases h with h | ⟨r, h, rfl⟩
          · exact h.block k (hG k q1)
          · exact h.block k (hG k q1) fun e => hn k e.symm q1
        exact ⟨⟨q1, hkk⟩, q2.keep hkk⟩
      refine Calls.mono (appI (n := xs.length) i hp1 hp2 hul' ho (by omega) htab) fun e w' he => ?_
      obtain ⟨A, cap, rfl, k1, k2, k3⟩ := he
      refine ⟨_, _, rfl, k1, ?_, fun k hk => ?_, k2, k3⟩
      · show (us ++ Lib.byteCells (Lib.itoa i)).length = (xs ++ Cn.itoaI i).length
        rw [List.length_append, List.length_append, Lib.byteCells_length, hul', hlen]
      · have hk' : k < xs.length + (Cn.itoaI i).length := by
          have : k < (xs ++ Cn.itoaI i).length := hk
          rwa [List.length_append] at this
        show Rep W G (.val (.int .u8 ((xs ++ Cn.itoaI i).getD k 0))) _
        rw [Cn.bytesC_itoa]
        unfold Cn.bytesC
        by_cases hlt : k < xs.length
        · have e1 : (xs ++ Cn.itoaI i).getD k 0 = xs.getD k 0 := by simp [List.getD, List.getElem?_append_left hlt]
          have e2 : (us ++ (Cn.itoaI i).map (Value.int .u8)).getD k undef = us.getD k undef := by simp [List.getD, List.getElem?_append_left (show k < us.length by omega)]
          rw [e1, e2]
          exact hrep k hlt
        · obtain ⟨q, rfl⟩ : ∃ q, k = xs.length + q := ⟨k - xs.length, by omega⟩
          have hq : q < (Cn.itoaI i).length := by omega
          have e1 : (xs ++ Cn.itoaI i).getD (xs.length + q) 0 = (Cn.itoaI i).getD q 0 := by simp [List.getD, List.getElem?_append_right (show xs.length ≤ xs.length + q by omega)]
          have e2 : (us ++ (Cn.itoaI i).map (Value.int .u8)).getD (xs.length + q) undef = .int .u8 ((Cn.itoaI i).getD q 0) := by
            rw [← hul']
            simp [List.getD, List.getElem?_append_right (show us.length ≤ us.length + q by omega), List.getElem?_eq_getElem hq]
          rw [e1, e2]
          exact .val _
  · cases h
end Go.Proofs.YtbpbndlgfiammaaGreatDoor.En
