/- Plain facts on the reference of layer 17: its loops' states, bounds, and what its run answers. -/
import Derived.Test.YtogolfneckhnaaaDoorRef17P
import Derived.Test.YtogolfneckhnaaaDoorAdSum
namespace Go.Proofs.YtogolfneckhnaaaDoor
open Go Go.RowKit
open En (andI)

theorem getD_in {l : List Int} {k : Nat} (h : k < l.length) : l.getD k 0 ∈ l := by
  have : l.getD k 0 = l[k] := by simp [List.getD, List.getElem?_eq_getElem h]
  rw [this]; exact List.getElem_mem h
theorem getD_inL {l : List (List Int)} {k : Nat} : l.getD k [] = [] ∨ l.getD k [] ∈ l := by
  by_cases h : k < l.length
  · right
    have : l.getD k [] = l[k] := by simp [List.getD, List.getElem?_eq_getElem h]
    rw [this]; exact List.getElem_mem h
  · left; simp [List.getD, List.getElem?_eq_none (by omega : l.length ≤ k)]
theorem padget_len {rows : List (List Int)} {N : Nat} (h : ∀ r ∈ rows, r.length ≤ N) (t j : Nat) : ((rows ++ List.replicate t []).getD j []).length ≤ N := by
  rcases getD_inL (l := rows ++ List.replicate t []) (k := j) with e | e
  · rw [e]; simp
  · rcases List.mem_append.1 e with e | e
    · exact h _ e
    · rw [(List.mem_replicate.1 e).2]; simp
theorem putR_run {rows : List (List Int)} {k t : Nat} {x : Int} (h : t = k + 1 - rows.length) : (rows ++ List.replicate t []).set k (([] ++ (rows ++ List.replicate t []).getD k []) ++ [x]) = putR rows k x := by subst h; rfl
theorem putR_len (rows : List (List Int)) (k : Nat) (x : Int) : (putR rows k x).length = max rows.length (k + 1) := by
  unfold putR; rw [List.length_set, padR_len]
theorem putR_lens {rows : List (List Int)} {N : Nat} (h : ∀ r ∈ rows, r.length ≤ N) (k : Nat) (x : Int) : ∀ r ∈ putR rows k x, r.length ≤ N + 1 := by
  intro r hr
  unfold putR at hr
  rcases List.mem_or_eq_of_mem_set hr with e | e
  · unfold padR at e
    rcases List.mem_append.1 e with e | e
    · have := h _ e; omega
    · rw [(List.mem_replicate.1 e).2]; simp
  · rw [e, List.length_append]
    have := padget_len h (k + 1 - rows.length) k
    unfold padR
    simp only [List.length_cons, List.length_nil]
    omega
theorem set_lens {rows : List (List Int)} {N k : Nat} {l : List Int} (h : ∀ r ∈ rows, r.length ≤ N) (hl : l.length ≤ N) : ∀ r ∈ rows.set k l, r.length ≤ N := by
  intro r hr
  rcases List.mem_or_eq_of_mem_set hr with e | e
  · exact h _ e
  · rw [e]; exact hl
theorem cls_last {l : List Int} {s : Int} {n i : Nat} (hi : i = l.length) (hl : l.length = 2 ∨ l.length = 3) (hn : n < 2 ^ l.length) : sgs l n i ++ [bif !par n i then 0 - s else s] = cls1 l s n := by
  rw [sgs_all hi, hi, par_odd hl hn]
  unfold cls1
  cases odd8 n <;> simp
theorem sgs_len (l : List Int) (n i : Nat) : (sgs l n i).length ≤ l.length := by simp [sgs]; omega
theorem sgs_bit {l : List Int} {n i : Nat} (h : i < l.length) : sgs l n i ++ [bif n.testBit i then 0 - l.getD i 0 else l.getD i 0] = sgs l n (i + 1) := by
  rw [sgs_succ h]
  unfold sgn
  cases n.testBit i <;> simp
theorem okAt_iff {n a x : Int} : okAt n (a, x) = true ↔ 0 ≤ a ∧ a ≤ 1099511627776 ∧ x ≠ 0 ∧ x < n ∧ -n < x := by
  simp [okAt, and_assoc]
theorem okAt_no {n a x : Int} (h : ¬ (0 ≤ a ∧ a ≤ 1099511627776 ∧ x ≠ 0 ∧ x < n ∧ -n < x)) : okAt n (a, x) = false := by
  cases h' : okAt n (a, x) with
  | false => rfl
  | true => exact absurd (okAt_iff.1 h') h
theorem sum_no0 {coef l : List Int} {next : Int} (h : next < 1 ∨ 65537 < next ∨ coef.length ≠ l.length) : sumP coef l next = .err 1 := by rw [sumP, if_pos h]
theorem zip_at {coef l : List Int} {i : Nat} (h1 : i < coef.length) (h2 : i < l.length) : (coef.getD i 0, l.getD i 0) ∈ coef.zip l := by
  have h : i < (coef.zip l).length := by simp; omega
  have e : (coef.getD i 0, l.getD i 0) = (coef.zip l)[i] := by simp [List.getD, List.getElem?_eq_getElem h1, List.getElem?_eq_getElem h2]
  rw [e]; exact List.getElem_mem h
theorem sum_no1 {coef l : List Int} {next : Int} {i : Nat} (h1 : i < coef.length) (h2 : i < l.length) (h : okAt next (coef.getD i 0, l.getD i 0) = false) : sumP coef l next = .err 1 := by
  rw [sumP]
  split
  · rfl
  · rw [if_pos]
    cases ha : (coef.zip l).all (okAt next) with
    | false => rfl
    | true => rw [List.all_eq_true.1 ha _ (zip_at h1 h2)] at h; cases h
theorem all_ok {coef l : List Int} {next : Int} (hl : coef.length = l.length) (h : ∀ j, j < l.length → okAt next (coef.getD j 0, l.getD j 0) = true) : (coef.zip l).all (okAt next) = true := by
  rw [List.all_eq_true]
  intro q hq
  obtain ⟨j, hj, rfl⟩ := List.mem_iff_getElem.1 hq
  have h2 : j < l.length := by simp at hj; omega
  have h1 : j < coef.length := by omega
  have := h j h2
  simpa [List.getD, List.getElem?_eq_getElem h1, List.getElem?_eq_getElem h2] using this
theorem bit_lt {c : Int} {k : Nat} (h1 : c ≤ 1099511627776) (h : 0 < c / 2 ^ k) : k < 41 := by
  apply Nat.lt_of_not_le
  intro hk
  have hp : (2 : Int) ^ 41 ≤ 2 ^ k := by exact_mod_cast Nat.pow_le_pow_right (by decide : 0 < 2) hk
  have h2 : c / 2 ^ k < 1 := Int.ediv_lt_of_lt_mul (Int.pow_pos (by decide)) (by
    have : (2 : Int) ^ 41 = 2199023255552 := by decide
    omega)
  omega
theorem fdA_ok (coef l : List Int) {i : Nat} (hi : i ≤ 40) : FeedOk (fdA coef l i) (64 * 40) := (FeedOk.all _ _ _ FeedOk.zero).mono (by simp; omega)
theorem fdL_lens {s : Fd} {n : Nat} (h : FeedOk s n) : (fdL s).length ≤ 64 ∧ ∀ r ∈ fdL s, r.length ≤ n := by
  refine ⟨by have := h.2.2; unfold fdL; rw [rl_len]; omega, fun r hr => ?_⟩
  obtain ⟨j, rfl⟩ := rl_mem hr
  exact h.1 j
theorem fdT_lens (coef l : List Int) {i k : Nat} (c : Nat) (x : Int) (hi : i ≤ 40) (hk : k ≤ 64) : (fdL (feedTo c x (fdA coef l i) k)).length ≤ 64 ∧ ∀ r ∈ fdL (feedTo c x (fdA coef l i) k), r.length ≤ 1000000 :=
  let h := fdL_lens ((fdA_ok coef l hi).feedTo c x k hk)
  ⟨h.1, fun r hr => by have := h.2 r hr; omega⟩
theorem fd_yes {s : Fd} {n k : Nat} {x : Int} (he : Emp (feedTo n x s k).1 (feedTo n x s k).2) (h : n.testBit k = true) : putR (fdL (feedTo n x s k)) k x = fdL (feedTo n x s (k + 1)) := by
  rw [feedTo_succ, if_pos h, fdL_put he]
theorem fd_no {s : Fd} {n k : Nat} {x : Int} (h : n.testBit k = false) : fdL (feedTo n x s k) = fdL (feedTo n x s (k + 1)) := by
  rw [feedTo_succ, if_neg (by rw [h]; simp)]
theorem fdA_all {coef l : List Int} {i : Nat} (h1 : coef.length = l.length) (h : ¬ i < l.length) (hi : i ≤ l.length) (next : Int) : fdL (fdA coef l i) = psL (st0 coef l next) := by
  unfold fdA
  rw [List.take_of_length_le (by simp; omega)]
  rfl
theorem st0_emp (coef l : List Int) (next : Int) : Emp (st0 coef l next).rows (st0 coef l next).top := Emp.all _ _ Emp.zero
theorem psL_len (s : Ps) : (psL s).length = s.top.toNat := rl_len _ _
theorem psL_get {s : Ps} {k : Nat} (h : (k : Int) < s.top) : (psL s).getD k [] = s.rows k := rl_get h
theorem psL_lens {s : Ps} {next : Int} (h : PsOk next s) : (psL s).length ≤ 65601 ∧ ∀ r ∈ psL s, r.length ≤ 327680 := by
  have h1 := h.lo; have h2 := h.hi; have h3 := h.top; have h4 := h.nx
  refine ⟨by rw [psL_len]; omega, fun r hr => ?_⟩
  obtain ⟨j, rfl⟩ := rl_mem hr
  have := h.len j
  omega
theorem drop_min (x : List Int) : [] ++ ((x.take x.length).drop (min 3 (x.length : Int)).toNat) = x.drop 3 := by
  rw [List.nil_append, List.take_length]
  by_cases h : 3 ≤ x.length
  · rw [show (min 3 (x.length : Int)).toNat = 3 by omega]
  · rw [show (min 3 (x.length : Int)).toNat = x.length by omega, List.drop_length, List.drop_eq_nil_of_le (by omega)]
theorem take_min (x : List Int) : [] ++ ((x.take (min 3 (x.length : Int)).toNat).drop 0) = x.take 3 := by
  rw [List.nil_append, List.drop_zero]
  by_cases h : 3 ≤ x.length
  · rw [show (min 3 (x.length : Int)).toNat = 3 by omega]
  · rw [show (min 3 (x.length : Int)).toNat = x.length by omega, List.take_length, List.take_of_length_le (by omega)]
theorem hd1 {o l : List Int} (h : l.length = 1) : o ++ [l.getD 0 0] = o ++ [l.headD 0] := by
  match l, h with
  | [a], _ => rfl
theorem hd0 {o l : List Int} (h : ¬ 1 < l.length) (h' : ¬ l.length = 1) : o ++ [0] = o ++ [l.headD 0] := by
  rw [List.eq_nil_of_length_eq_zero (by omega : l.length = 0)]; rfl
/-- the run's state: position k, fuel f, output o, and what comes of it -/
def RS (coef l : List Int) (next : Int) (f k : Nat) (s : Ps) (o : List Int) : Prop :=
  sumF f k s o = sumF fuel0 0 (st0 coef l next) [] ∧ 3 * (70000 - s.nx) + (s.top - (k : Int)) < (f : Int) ∧ PsOk next s ∧ (k : Int) ≤ s.top ∧ o.length = k ∧ Emp s.rows s.top
theorem RS.start {coef l : List Int} {next : Int} (h1 : 1 ≤ next) (h2 : next ≤ 65537) (h3 : (coef.zip l).all (okAt next) = true) (h4 : l.length ≤ 4096) : RS coef l next fuel0 0 (st0 coef l next) [] := by
  have h := st0_ok h1 h2 h3 (by omega)
  have ha := h.hi; have hb := h.top; have hc := h.top0; have hd := h.nx; have he := h.lo
  exact ⟨rfl, by unfold fuel0; omega, h, hc, rfl, st0_emp _ _ _⟩
theorem RS.fuel {coef l : List Int} {next : Int} {f k : Nat} {s : Ps} {o : List Int} (h : RS coef l next f k s o) : ∃ f', f = f' + 1 := by
  have h2 := h.2.1; have h3 := h.2.2.1.hi; have h4 := h.2.2.2.1
  exact ⟨f - 1, by omega⟩
theorem RS.adder {coef l : List Int} {next : Int} {f k : Nat} {s : Ps} {o : List Int} (h : RS coef l next f k s o) (hk : (k : Int) < s.top) (hl : 1 < (s.rows k).length) (hf : s.nx + 2 ≤ 65537) :
    RS coef l next (f - 1) k (stepP k s) o ∧ (k : Int) < (stepP k s).top := by
  obtain ⟨f', rfl⟩ := h.fuel
  obtain ⟨h1, h2, h3, h4, h5, h6⟩ := h
  rw [sumF_add hk hl hf] at h1
  have et : (stepA k s).top = max (max s.top ((k : Int) + 1)) ((k : Int) + 1 + 1) := rfl
  have en : (stepA k s).nx = s.nx + 2 := rfl
  have hps := h3.step k (by omega) hk hf
  have := h3.hi
  exact ⟨⟨h1, by show 3 * (70000 - (stepA k s).nx) + ((stepA k s).top - (k : Int)) < _; rw [et, en]; omega, hps, by show _ ≤ (stepA k s).top; rw [et]; omega, h5, h6.step hk⟩, by show _ < (stepA k s).top; rw [et]; omega⟩
theorem RS.next {coef l : List Int} {next : Int} {f k : Nat} {s : Ps} {o : List Int} (h : RS coef l next f k s o) (hk : (k : Int) < s.top) (hl : ¬ 1 < (s.rows k).length) : RS coef l next (f - 1) (k + 1) s (o ++ [(s.rows k).headD 0]) := by
  obtain ⟨f', rfl⟩ := h.fuel
  obtain ⟨h1, h2, h3, h4, h5, h6⟩ := h
  rw [sumF_next hk hl] at h1
  exact ⟨by exact_mod_cast h1, by push_cast; omega, h3, by omega, by simp [h5], h6⟩
theorem RS.full {coef l : List Int} {next : Int} {f k : Nat} {s : Ps} {o : List Int} (h : RS coef l next f k s o) (hk : (k : Int) < s.top) (hl : 1 < (s.rows k).length) (hf : 65537 < s.nx + 2)
    (h1 : ¬ (next < 1 ∨ 65537 < next ∨ coef.length ≠ l.length)) (h2 : (coef.zip l).all (okAt next) = true) (h3 : ¬ 4096 < l.length) : sumP coef l next = .err 2 := by
  obtain ⟨f', rfl⟩ := h.fuel
  rw [sumP_run h1 h2 h3, ← h.1, sumF_full hk hl hf]; rfl
theorem RS.done {coef l : List Int} {next : Int} {f k : Nat} {s : Ps} {o : List Int} (h : RS coef l next f k s o) (hk : ¬ (k : Int) < s.top)
    (h1 : ¬ (next < 1 ∨ 65537 < next ∨ coef.length ≠ l.length)) (h2 : (coef.zip l).all (okAt next) = true) (h3 : ¬ 4096 < l.length) : sumP coef l next = .ok o s.cs s.nx := by
  obtain ⟨f', rfl⟩ := h.fuel
  rw [sumP_run h1 h2 h3, ← h.1, sumF_end hk]; rfl
/-- what one adder's step asks of the rows -/
theorem RS.rows {coef l : List Int} {next : Int} {f k : Nat} {s : Ps} {o : List Int} (h : RS coef l next f k s o) (hk : (k : Int) < s.top) :
    (((psL s).set k ((s.rows k).drop 3)).length ≤ 1000000 ∧ ∀ r ∈ (psL s).set k ((s.rows k).drop 3), r.length ≤ 1000000) ∧
      (putR ((psL s).set k ((s.rows k).drop 3)) k s.nx).length ≤ 1000000 ∧ ∀ r ∈ putR ((psL s).set k ((s.rows k).drop 3)) k s.nx, r.length ≤ 1000000 := by
  have hp := h.2.2.1
  obtain ⟨h1, h2⟩ := psL_lens hp
  have hl : ((s.rows k).drop 3).length ≤ 327680 := by
    have h3 := hp.len k; have h4 := hp.hi; have h5 := hp.lo
    rw [List.length_drop]; omega
  have hs := set_lens (k := k) h2 hl
  have hkk : k < (psL s).length := by rw [psL_len]; omega
  refine ⟨⟨by rw [List.length_set]; omega, fun r hr => by have := hs r hr; omega⟩, by rw [putR_len, List.length_set]; omega, fun r hr => by have := putR_lens hs k s.nx r hr; omega⟩
theorem RS.some {coef l : List Int} {next : Int} {f k : Nat} {s : Ps} {o : List Int} (h : RS coef l next f k s o) (hl : 1 < (s.rows k).length) :
    (((s.rows k).take 3).length = 2 ∨ ((s.rows k).take 3).length = 3) ∧ ∀ x ∈ (s.rows k).take 3, -100000 ≤ x ∧ x ≤ 100000 := by
  refine ⟨by rw [List.length_take]; omega, fun x hx => ?_⟩
  have := h.2.2.1.lit k x (List.mem_of_mem_take hx)
  omega
end Go.Proofs.YtogolfneckhnaaaDoor
