/- Plain bounds of the canonical form: no sum of it goes beyond the sum of all coefficients' sizes. -/
import Derived.Test.YtibfgeoiemmjoaaLinP2
namespace Go.Proofs.Ytibfgeoiemmjoaa

def absG (z : List (Int × Int)) : List Int → Nat
  | [] => 0
  | v :: t => (cfZ z v).natAbs + (cfZ z (-v)).natAbs + absG z t
def absS : List (Int × Int) → Nat
  | [] => 0
  | q :: t => q.1.natAbs + absS t
theorem absG_nil : ∀ vs : List Int, absG [] vs = 0
  | [] => rfl
  | _ :: t => by simp [absG, cfZ, absG_nil t]
theorem absG_far (q : Int × Int) (z : List (Int × Int)) : ∀ vs : List Int, (∀ v ∈ vs, q.2 ≠ v ∧ q.2 ≠ -v) → absG (q :: z) vs = absG z vs
  | [], _ => rfl
  | v :: t, h => by
    have h1 := h v (by simp)
    simp only [absG, cfZ, if_neg h1.1, if_neg h1.2, Int.zero_add, absG_far q z t (fun u hu => h u (by simp [hu]))]
theorem absG_cons (q : Int × Int) (z : List (Int × Int)) : ∀ vs : List Int, Inc vs → (∀ v ∈ vs, 0 < v) → absG (q :: z) vs ≤ q.1.natAbs + absG z vs
  | [], _, _ => by simp [absG]
  | v :: t, hi, hp => by
    have hpv := hp v (by simp)
    by_cases hq : q.2 = v ∨ q.2 = -v
    · have hf := absG_far q z t (fun u hu => by
        have := hi.1 u hu
        have := hp u (by simp [hu])
        rcases hq with e | e <;> rw [e] <;> constructor <;> omega)
      simp only [absG, cfZ, hf]
      rcases hq with e | e
      · rw [if_pos e, if_neg (by omega)]; omega
      · rw [if_neg (by omega), if_pos e]; omega
    · have hn : q.2 ≠ v ∧ q.2 ≠ -v := ⟨fun e => hq (.inl e), fun e => hq (.inr e)⟩
      have ih := absG_cons q z t hi.2 (fun u hu => hp u (by simp [hu]))
      simp only [absG, cfZ, if_neg hn.1, if_neg hn.2, Int.zero_add]
      omega
theorem absG_le : ∀ (z : List (Int × Int)) (vs : List Int), Inc vs → (∀ v ∈ vs, 0 < v) → absG z vs ≤ absS z
  | [], vs, _, _ => by simp [absG_nil]
  | q :: z, vs, hi, hp => by
    have h1 := absG_cons q z vs hi hp
    have h2 := absG_le z vs hi hp
    simp only [absS]
    omega
theorem absS_le (M : Nat) : ∀ z : List (Int × Int), (∀ q ∈ z, q.1.natAbs ≤ M) → absS z ≤ M * z.length
  | [], _ => by simp [absS]
  | q :: z, h => by
    have h1 := h q (by simp)
    have h2 := absS_le M z (fun u hu => h u (by simp [hu]))
    simp only [absS, List.length_cons, Nat.mul_add, Nat.mul_one]
    omega
theorem absG_take (z : List (Int × Int)) : ∀ (vs : List Int) (k : Nat), absG z (vs.take k) ≤ absG z vs
  | [], k => by simp
  | v :: t, 0 => by simp [absG]
  | v :: t, k + 1 => by
    have := absG_take z t k
    simp only [List.take_succ_cons, absG]
    omega
theorem mins_abs (l : LinV) : ∀ vs : List Int, (minsP l vs).natAbs ≤ absG (l.C.zip l.L) vs
  | [] => by simp [minsP, absG]
  | v :: t => by
    have ih := mins_abs l t
    simp only [minsP, absG, cf]
    omega
theorem sumF1_app : ∀ a b : List (Int × Int), sumF1 (a ++ b) = sumF1 a + sumF1 b
  | [], b => by simp [sumF1]
  | q :: a, b => by simp only [List.cons_append, sumF1, sumF1_app a b]; omega
theorem sumF1_abs (l : LinV) : ∀ vs : List Int, 0 ≤ sumF1 (termsP l vs) ∧ sumF1 (termsP l vs) ≤ absG (l.C.zip l.L) vs
  | [] => by simp [termsP, sumF1, absG]
  | v :: t => by
    have ih := sumF1_abs l t
    have e : termsP l (v :: t) = termV (cf l v) (cf l (-v)) v ++ termsP l t := rfl
    rw [e, sumF1_app]
    simp only [absG]
    unfold termV cf
    split
    · simp only [sumF1]; omega
    · split
      · simp only [sumF1]; omega
      · simp only [sumF1]; omega
theorem sumF1_take : ∀ (ts : List (Int × Int)) (k : Nat), (∀ q ∈ ts, 0 < q.1) → 0 ≤ sumF1 (ts.take k) ∧ sumF1 (ts.take k) ≤ sumF1 ts
  | [], k, _ => by simp [sumF1]
  | q :: t, 0, h => by
    have := h q (by simp)
    have := sumF1_take t 0 (fun u hu => h u (by simp [hu]))
    simp only [List.take_zero, sumF1] at this ⊢
    omega
  | q :: t, k + 1, h => by
    have := h q (by simp)
    have := sumF1_take t k (fun u hu => h u (by simp [hu]))
    simp only [List.take_succ_cons, sumF1]
    omega
theorem mem_le_sumF1 : ∀ (ts : List (Int × Int)) (q : Int × Int), (∀ u ∈ ts, 0 < u.1) → q ∈ ts → q.1 ≤ sumF1 ts
  | u :: t, q, h, hq => by
    have h1 := h u (by simp)
    have h2 := (sumF1_take t 0 (fun u hu => h u (by simp [hu])))
    simp only [List.take_zero, sumF1] at h2 ⊢
    rcases List.mem_cons.1 hq with rfl | hq
    · omega
    · have := mem_le_sumF1 t q (fun u hu => h u (by simp [hu])) hq
      omega
theorem termV_len (a b v : Int) : (termV a b v).length ≤ 1 := by unfold termV; split <;> (try split) <;> simp
theorem terms_len (l : LinV) : ∀ vs : List Int, (termsP l vs).length ≤ vs.length
  | [] => by simp [termsP]
  | v :: t => by
    have := terms_len l t
    have h1 := termV_len (cf l v) (cf l (-v)) v
    have e : termsP l (v :: t) = termV (cf l v) (cf l (-v)) v ++ termsP l t := rfl
    rw [e]
    simp only [List.length_append, List.length_cons]
    omega
theorem vars_pos {L : List Int} (h : ∀ x ∈ L, x ≠ 0) : ∀ v ∈ varsZ L, 0 < v := fun v hv => by
  obtain ⟨x, hx, rfl⟩ := mem_varsZ.1 hv
  have := h x hx
  omega
theorem vars_le {L : List Int} {n : Int} (h : ∀ x ∈ L, x ≠ 0 ∧ -n ≤ x ∧ x ≤ n) : ∀ v ∈ varsZ L, 0 < v ∧ v ≤ n := fun v hv => by
  obtain ⟨x, hx, rfl⟩ := mem_varsZ.1 hv
  have := h x hx
  omega
/-- everything that Norm sums stays small -/
theorem vars_abs {l : LinV} (h : lcheck l 65536 = 0) : absG (l.C.zip l.L) (varsZ l.L) ≤ 4503599627370496 := by
  obtain ⟨_, _, hl, _, hc, hx, hn⟩ := lcheck_ok h
  refine Nat.le_trans (absG_le _ _ (inc_varsZ _) (vars_pos fun x hx' => (hx x hx').1)) (Nat.le_trans (absS_le 1099511627776 _ ?_) ?_)
  · intro q hq
    have := hc q.1 (List.of_mem_zip hq).1
    omega
  · have : (l.C.zip l.L).length ≤ 4096 := by rw [List.length_zip]; omega
    calc 1099511627776 * (l.C.zip l.L).length ≤ 1099511627776 * 4096 := Nat.mul_le_mul_left _ this
      _ ≤ _ := by decide
theorem mins_bd {l : LinV} (h : lcheck l 65536 = 0) (k : Nat) : -4503599627370496 ≤ minsP l ((varsZ l.L).take k) ∧ minsP l ((varsZ l.L).take k) ≤ 4503599627370496 := by
  have h1 := mins_abs l ((varsZ l.L).take k)
  have h2 := absG_take (l.C.zip l.L) (varsZ l.L) k
  have h3 := vars_abs h
  omega
theorem terms_bd {l : LinV} (h : lcheck l 65536 = 0) (k : Nat) : 0 ≤ sumF1 (termsP l ((varsZ l.L).take k)) ∧ sumF1 (termsP l ((varsZ l.L).take k)) ≤ 4503599627370496 := by
  have h1 := sumF1_abs l ((varsZ l.L).take k)
  have h2 := absG_take (l.C.zip l.L) (varsZ l.L) k
  have h3 := vars_abs h
  omega
theorem minsP_snoc (l : LinV) : ∀ (vs : List Int) (v : Int), minsP l (vs ++ [v]) = minsP l vs + min (cf l v) (cf l (-v))
  | [], v => by simp [minsP]
  | u :: t, v => by simp only [List.cons_append, minsP, minsP_snoc l t v]; omega
theorem termsP_snoc (l : LinV) (vs : List Int) (v : Int) : termsP l (vs ++ [v]) = termsP l vs ++ termV (cf l v) (cf l (-v)) v := by simp [termsP]
theorem varsZ_len (L : List Int) : (varsZ L).length ≤ L.length := by
  have ins : ∀ (v : Int) (l : List Int), (insV v l).length ≤ l.length + 1 := fun v l => by
    induction l with
    | nil => simp [insV]
    | cons y t ih => unfold insV; split <;> (try split) <;> simp <;> omega
  have go : ∀ (L acc : List Int), (L.foldl (fun out x => insV (x.natAbs : Int) out) acc).length ≤ L.length + acc.length := fun L => by
    induction L with
    | nil => intro acc; simp
    | cons x t ih => intro acc; have := ih (insV (x.natAbs : Int) acc); have := ins (x.natAbs : Int) acc; simp only [List.foldl_cons, List.length_cons]; omega
  exact go L []
end Go.Proofs.Ytibfgeoiemmjoaa
