/- The plain law of AdderSumCorrect: the clauses of a sum force each new variable, hold then, and the bits' number is the sum of the coefficients of the true literals. -/
import Derived.Test.YtogolfneckhnaaaDoorAdPlainZ
import Derived.Test.YtogolfneckhnaaaDoorToldP
namespace Go.Proofs.YtogolfneckhnaaaDoor

theorem litT_val {F : List Bool} {x : Int} (h : LitOk (F.length : Int) x) (hF : (F.length : Int) ≤ 65537) : litT F x = (F.getD x.natAbs false == decide (0 < x)) := by
  obtain ⟨h0, h1, h2⟩ := h
  unfold litT
  rw [decide_eq_true (show x ≠ 0 ∧ -65536 ≤ x ∧ x ≤ 65536 by omega), decide_eq_true (show x.natAbs < F.length by omega), Bool.true_and, Bool.true_and]
theorem litT_neg {F : List Bool} {x : Int} (h : LitOk (F.length : Int) x) (hF : (F.length : Int) ≤ 65537) : litT F (-x) = !litT F x := by
  rw [litT_val h hF, litT_val h.neg hF, Int.natAbs_neg]
  have h0 := h.1
  have e : decide (0 < -x) = !decide (0 < x) := by
    rw [Bool.eq_iff_iff]; simp; omega
  rw [e]
  cases F.getD x.natAbs false <;> cases decide (0 < x) <;> rfl
theorem litT_ext {F : List Bool} (G : List Bool) {x : Int} (h : LitOk (F.length : Int) x) (hF : ((F ++ G).length : Int) ≤ 65537) : litT (F ++ G) x = litT F x := by
  rw [List.length_append] at hF
  rw [litT_val h (by omega), litT_val (h.mono (by rw [List.length_append]; omega)) (by rw [List.length_append]; exact hF)]
  have := h.2
  rw [List.getD_eq_getElem?_getD, List.getD_eq_getElem?_getD, List.getElem?_append_left (by omega)]
theorem okO_eq {F : List Bool} {x : Int} (h : LitOk (F.length : Int) x) (hF : (F.length : Int) ≤ 65537) : okO F (F.length : Int) x = !litT F x := by
  obtain ⟨h0, h1, h2⟩ := h
  rw [litT_val ⟨h0, h1, h2⟩ hF]
  unfold okO
  rw [decide_eq_true (show 1 ≤ x.natAbs by omega), decide_eq_true (show (x.natAbs : Int) < (F.length : Int) by omega), decide_eq_true (show x.natAbs < F.length by omega)]
  cases F.getD x.natAbs false <;> cases decide (0 < x) <;> rfl

section
variable {out : List Bool} {lit v : Int}
theorem forced_one (xs : List Int) (l' : Int) (hv : (out.length : Int) = v) (hb : v ≤ 65537) (hlit : lit = v ∨ lit = -v) (hx : ∀ x ∈ xs, LitOk v x) : (hasB (xs ++ [l']) lit && otherB (xs ++ [l']) lit out v) = (l' == lit && xs.all fun x => !litT out x) := by
  have hne : ∀ x ∈ xs, (x == lit) = false := fun x hxm => by
    have := hx x hxm
    obtain ⟨a, b, c⟩ := this
    simp only [beq_eq_false_iff_ne]
    omega
  have ho : xs.all (fun x => x == lit || okO out v x) = xs.all fun x => !litT out x := by
    rw [Bool.eq_iff_iff, List.all_eq_true, List.all_eq_true]
    refine forall_congr' fun x => forall_congr' fun hxm => ?_
    rw [hne x hxm, Bool.false_or]
    subst hv
    rw [okO_eq (hx x hxm) hb]
  have hh : xs.any (· == lit) = false := by
    rw [List.any_eq_false]; intro x hxm; rw [hne x hxm]; simp
  unfold hasB otherB
  rw [List.any_append, List.all_append, hh, ho]
  by_cases e : (l' == lit) = true
  · simp [e]
  · have e : (l' == lit) = false := by simpa using e
    simp [e]
theorem forced_low {cs : List (List Int)} (hlit : lit = v ∨ lit = -v) (h : ∀ c ∈ cs, ∀ x ∈ c, LitOk v x) : forcedB cs lit v out = false := by
  unfold forcedB
  rw [List.any_eq_false]
  intro c hc
  have : hasB c lit = false := by
    unfold hasB
    rw [List.any_eq_false]
    intro x hx
    obtain ⟨a, b, d⟩ := h c hc x hx
    simp; omega
  rw [this]; simp
theorem forced_high {cs : List (List Int)} (hlit : lit = v ∨ lit = -v) (hv0 : 0 ≤ v) (h : ∀ c ∈ cs, ∃ x ∈ c, v < (x.natAbs : Int)) : forcedB cs lit v out = false := by
  unfold forcedB
  rw [List.any_eq_false]
  intro c hc
  obtain ⟨x, hx, hlt⟩ := h c hc
  have : otherB c lit out v = false := by
    unfold otherB
    rw [List.all_eq_false]
    refine ⟨x, hx, ?_⟩
    have h1 : (x == lit) = false := by simp only [beq_eq_false_iff_ne]; omega
    have h2 : okO out v x = false := by
      unfold okO
      rw [decide_eq_false (show ¬ (x.natAbs : Int) < v by omega)]
      simp
    rw [h1, h2]; simp
  rw [this]; simp
theorem forced_app (a b : List (List Int)) : forcedB (a ++ b) lit v out = (forcedB a lit v out || forcedB b lit v out) := by
  unfold forcedB; rw [List.any_append]
end

def cntT (F : List Bool) : List Int → Nat
  | [] => 0
  | x :: l => (litT F x).toNat + cntT F l
theorem cntT_app (F : List Bool) : ∀ a b, cntT F (a ++ b) = cntT F a + cntT F b
  | [], b => by simp [cntT]
  | x :: a, b => by simp only [List.cons_append, cntT, cntT_app F a b]; omega
theorem cntT_congr {F G : List Bool} : ∀ {l : List Int}, (∀ x ∈ l, litT F x = litT G x) → cntT F l = cntT G l
  | [], _ => rfl
  | x :: l, h => by simp only [cntT]; rw [h x (by simp), cntT_congr (l := l) (fun y hy => h y (by simp [hy]))]
def sV (F : List Bool) (l : List Int) : Bool := cntT F l % 2 == 1
def cV (F : List Bool) (l : List Int) : Bool := Nat.ble 2 (cntT F l)

theorem mid_two (a b n : Int) (out : List Bool) (hv : (out.length : Int) = n) (hn : 1 ≤ n) (hb : n + 2 ≤ 65537) (ha : LitOk n a) (hbb : LitOk n b) :
    forcedB (addC [a, b] n (n + 1)) n n out = sV out [a, b] ∧ forcedB (addC [a, b] n (n + 1)) (-n) n out = !sV out [a, b] := by
  have na := litT_neg (F := out) (by rw [hv]; exact ha) (by omega)
  have nb := litT_neg (F := out) (by rw [hv]; exact hbb) (by omega)
  have f3 : ∀ lit (_ : lit = n ∨ lit = -n) x y l', LitOk n x → LitOk n y → (hasB [x, y, l'] lit && otherB [x, y, l'] lit out n) = (l' == lit && (!litT out x && (!litT out y && true))) := fun lit hl x y l' hx hy =>
    forced_one [x, y] l' hv (by omega) hl (by simp; exact ⟨hx, hy⟩)
  have f2 : ∀ lit (_ : lit = n ∨ lit = -n) x l', LitOk n x → (hasB [x, l'] lit && otherB [x, l'] lit out n) = (l' == lit && (!litT out x && true)) := fun lit hl x l' hx =>
    forced_one [x] l' hv (by omega) hl (by simpa using hx)
  have e1 : ((-n : Int) == n) = false := by simp only [beq_eq_false_iff_ne]; omega
  have e2 : ((n : Int) == -n) = false := by simp only [beq_eq_false_iff_ne]; omega
  have e3 : ((n + 1 : Int) == n) = false := by simp only [beq_eq_false_iff_ne]; omega
  have e4 : ((n + 1 : Int) == -n) = false := by simp only [beq_eq_false_iff_ne]; omega
  have e5 : ((-(n + 1) : Int) == n) = false := by simp only [beq_eq_false_iff_ne]; omega
  have e6 : ((-(n + 1) : Int) == -n) = false := by simp only [beq_eq_false_iff_ne]; omega
  have e7 : (n == n) = true := by simp
  have e8 : (-n == -n) = true := by simp
  rw [addC_two]
  unfold forcedB sV
  simp only [List.any_cons, List.any_nil, cntT]
  constructor
  · rw [f3 n (.inl rfl) a b (-n) ha hbb, f3 n (.inl rfl) (-a) b n ha.neg hbb, f3 n (.inl rfl) a (-b) n ha hbb.neg, f3 n (.inl rfl) (-a) (-b) (-n) ha.neg hbb.neg, f3 n (.inl rfl) (-a) (-b) (n + 1) ha.neg hbb.neg, f2 n (.inl rfl) a (-(n + 1)) ha, f2 n (.inl rfl) b (-(n + 1)) hbb, e1, e3, e5, e7, na, nb]
    cases litT out a <;> cases litT out b <;> rfl
  · rw [f3 (-n) (.inr rfl) a b (-n) ha hbb, f3 (-n) (.inr rfl) (-a) b n ha.neg hbb, f3 (-n) (.inr rfl) a (-b) n ha hbb.neg, f3 (-n) (.inr rfl) (-a) (-b) (-n) ha.neg hbb.neg, f3 (-n) (.inr rfl) (-a) (-b) (n + 1) ha.neg hbb.neg, f2 (-n) (.inr rfl) a (-(n + 1)) ha, f2 (-n) (.inr rfl) b (-(n + 1)) hbb, e2, e4, e6, e8, na, nb]
    cases litT out a <;> cases litT out b <;> rfl
theorem mid_two' (a b n : Int) (out : List Bool) (hv : (out.length : Int) = n + 1) (hn : 1 ≤ n) (hb : n + 2 ≤ 65537) (ha : LitOk n a) (hbb : LitOk n b) :
    forcedB (addC [a, b] n (n + 1)) (n + 1) (n + 1) out = cV out [a, b] ∧ forcedB (addC [a, b] n (n + 1)) (-(n + 1)) (n + 1) out = !cV out [a, b] := by
  have ha : LitOk (n + 1) a := ha.mono (by omega)
  have hbb : LitOk (n + 1) b := hbb.mono (by omega)
  have na := litT_neg (F := out) (by rw [hv]; exact ha) (by omega)
  have nb := litT_neg (F := out) (by rw [hv]; exact hbb) (by omega)
  have f3 : ∀ lit (_ : lit = n + 1 ∨ lit = -(n + 1)) x y l', LitOk (n + 1) x → LitOk (n + 1) y → (hasB [x, y, l'] lit && otherB [x, y, l'] lit out (n + 1)) = (l' == lit && (!litT out x && (!litT out y && true))) := fun lit hl x y l' hx hy =>
    forced_one [x, y] l' hv (by omega) hl (by simp; exact ⟨hx, hy⟩)
  have f2 : ∀ lit (_ : lit = n + 1 ∨ lit = -(n + 1)) x l', LitOk (n + 1) x → (hasB [x, l'] lit && otherB [x, l'] lit out (n + 1)) = (l' == lit && (!litT out x && true)) := fun lit hl x l' hx =>
    forced_one [x] l' hv (by omega) hl (by simpa using hx)
  have e1 : ((-n : Int) == n + 1) = false := by simp only [beq_eq_false_iff_ne]; omega
  have e2 : ((n : Int) == -(n + 1)) = false := by simp only [beq_eq_false_iff_ne]; omega
  have e3 : ((n + 1 : Int) == n + 1) = true := by simp
  have e4 : ((n + 1 : Int) == -(n + 1)) = false := by simp only [beq_eq_false_iff_ne]; omega
  have e5 : ((-(n + 1) : Int) == n + 1) = false := by simp only [beq_eq_false_iff_ne]; omega
  have e6 : ((-(n + 1) : Int) == -(n + 1)) = true := by simp
  have e7 : (n == n + 1) = false := by simp only [beq_eq_false_iff_ne]; omega
  have e8 : (-n == -(n + 1)) = false := by simp only [beq_eq_false_iff_ne]; omega
  rw [addC_two]
  unfold forcedB cV
  simp only [List.any_cons, List.any_nil, cntT]
  constructor
  · rw [f3 (n + 1) (.inl rfl) a b (-n) ha hbb, f3 (n + 1) (.inl rfl) (-a) b n ha.neg hbb, f3 (n + 1) (.inl rfl) a (-b) n ha hbb.neg, f3 (n + 1) (.inl rfl) (-a) (-b) (-n) ha.neg hbb.neg, f3 (n + 1) (.inl rfl) (-a) (-b) (n + 1) ha.neg hbb.neg, f2 (n + 1) (.inl rfl) a (-(n + 1)) ha, f2 (n + 1) (.inl rfl) b (-(n + 1)) hbb, e1, e3, e5, e7, na, nb]
    cases litT out a <;> cases litT out b <;> rfl
  · rw [f3 (-(n + 1)) (.inr rfl) a b (-n) ha hbb, f3 (-(n + 1)) (.inr rfl) (-a) b n ha.neg hbb, f3 (-(n + 1)) (.inr rfl) a (-b) n ha hbb.neg, f3 (-(n + 1)) (.inr rfl) (-a) (-b) (-n) ha.neg hbb.neg, f3 (-(n + 1)) (.inr rfl) (-a) (-b) (n + 1) ha.neg hbb.neg, f2 (-(n + 1)) (.inr rfl) a (-(n + 1)) ha, f2 (-(n + 1)) (.inr rfl) b (-(n + 1)) hbb, e2, e4, e6, e8, na, nb]
    cases litT out a <;> cases litT out b <;> rfl
theorem mid_three (a b d n : Int) (out : List Bool) (hv : (out.length : Int) = n) (hn : 1 ≤ n) (hb : n + 2 ≤ 65537) (ha : LitOk n a) (hbb : LitOk n b) (hd : LitOk n d) :
    forcedB (addC [a, b, d] n (n + 1)) n n out = sV out [a, b, d] ∧ forcedB (addC [a, b, d] n (n + 1)) (-n) n out = !sV out [a, b, d] := by
  have na := litT_neg (F := out) (by rw [hv]; exact ha) (by omega)
  have nb := litT_neg (F := out) (by rw [hv]; exact hbb) (by omega)
  have nd := litT_neg (F := out) (by rw [hv]; exact hd) (by omega)
  have f4 : ∀ lit (_ : lit = n ∨ lit = -n) x y z l', LitOk n x → LitOk n y → LitOk n z → (hasB [x, y, z, l'] lit && otherB [x, y, z, l'] lit out n) = (l' == lit && (!litT out x && (!litT out y && (!litT out z && true)))) := fun lit hl x y z l' hx hy hz =>
    forced_one [x, y, z] l' hv (by omega) hl (by simp; exact ⟨hx, hy, hz⟩)
  have f3 : ∀ lit (_ : lit = n ∨ lit = -n) x y l', LitOk n x → LitOk n y → (hasB [x, y, l'] lit && otherB [x, y, l'] lit out n) = (l' == lit && (!litT out x && (!litT out y && true))) := fun lit hl x y l' hx hy =>
    forced_one [x, y] l' hv (by omega) hl (by simp; exact ⟨hx, hy⟩)
  have ep0 : ((-n : Int) == n) = false := by simp only [beq_eq_false_iff_ne]; omega
  have ep1 : ((n : Int) == n) = true := by simp
  have ep2 : ((n + 1 : Int) == n) = false := by simp only [beq_eq_false_iff_ne]; omega
  have ep3 : ((-(n + 1) : Int) == n) = false := by simp only [beq_eq_false_iff_ne]; omega
  have em0 : ((-n : Int) == -n) = true := by simp
  have em1 : ((n : Int) == -n) = false := by simp only [beq_eq_false_iff_ne]; omega
  have em2 : ((n + 1 : Int) == -n) = false := by simp only [beq_eq_false_iff_ne]; omega
  have em3 : ((-(n + 1) : Int) == -n) = false := by simp only [beq_eq_false_iff_ne]; omega
  rw [addC_three]
  unfold forcedB sV
  simp only [List.any_cons, List.any_nil, cntT]
  constructor
  · rw [f4 n (.inl rfl) a b d (-n) ha hbb hd, f4 n (.inl rfl) (-a) b d n ha.neg hbb hd, f4 n (.inl rfl) a (-b) d n ha hbb.neg hd, f4 n (.inl rfl) (-a) (-b) d (-n) ha.neg hbb.neg hd, f4 n (.inl rfl) a b (-d) n ha hbb hd.neg, f4 n (.inl rfl) (-a) b (-d) (-n) ha.neg hbb hd.neg, f4 n (.inl rfl) a (-b) (-d) (-n) ha hbb.neg hd.neg, f4 n (.inl rfl) (-a) (-b) (-d) n ha.neg hbb.neg hd.neg, f3 n (.inl rfl) (-a) (-b) (n + 1) ha.neg hbb.neg, f3 n (.inl rfl) (-a) (-d) (n + 1) ha.neg hd.neg, f3 n (.inl rfl) (-b) (-d) (n + 1) hbb.neg hd.neg, f3 n (.inl rfl) a b (-(n + 1)) ha hbb, f3 n (.inl rfl) a d (-(n + 1)) ha hd, f3 n (.inl rfl) b d (-(n + 1)) hbb hd, ep0, ep1, ep2, ep3, na, nb, nd]
    cases litT out a <;> cases litT out b <;> cases litT out d <;> rfl
  · rw [f4 (-n) (.inr rfl) a b d (-n) ha hbb hd, f4 (-n) (.inr rfl) (-a) b d n ha.neg hbb hd, f4 (-n) (.inr rfl) a (-b) d n ha hbb.neg hd, f4 (-n) (.inr rfl) (-a) (-b) d (-n) ha.neg hbb.neg hd, f4 (-n) (.inr rfl) a b (-d) n ha hbb hd.neg, f4 (-n) (.inr rfl) (-a) b (-d) (-n) ha.neg hbb hd.neg, f4 (-n) (.inr rfl) a (-b) (-d) (-n) ha hbb.neg hd.neg, f4 (-n) (.inr rfl) (-a) (-b) (-d) n ha.neg hbb.neg hd.neg, f3 (-n) (.inr rfl) (-a) (-b) (n + 1) ha.neg hbb.neg, f3 (-n) (.inr rfl) (-a) (-d) (n + 1) ha.neg hd.neg, f3 (-n) (.inr rfl) (-b) (-d) (n + 1) hbb.neg hd.neg, f3 (-n) (.inr rfl) a b (-(n + 1)) ha hbb, f3 (-n) (.inr rfl) a d (-(n + 1)) ha hd, f3 (-n) (.inr rfl) b d (-(n + 1)) hbb hd, em0, em1, em2, em3, na, nb, nd]
    cases litT out a <;> cases litT out b <;> cases litT out d <;> rfl
theorem mid_three' (a b d n : Int) (out : List Bool) (hv : (out.length : Int) = n + 1) (hn : 1 ≤ n) (hb : n + 2 ≤ 65537) (ha : LitOk n a) (hbb : LitOk n b) (hd : LitOk n d) :
    forcedB (addC [a, b, d] n (n + 1)) (n + 1) (n + 1) out = cV out [a, b, d] ∧ forcedB (addC [a, b, d] n (n + 1)) (-(n + 1)) (n + 1) out = !cV out [a, b, d] := by
  have ha : LitOk (n + 1) a := ha.mono (by omega)
  have hbb : LitOk (n + 1) b := hbb.mono (by omega)
  have hd : LitOk (n + 1) d := hd.mono (by omega)
  have na := litT_neg (F := out) (by rw [hv]; exact ha) (by omega)
  have nb := litT_neg (F := out) (by rw [hv]; exact hbb) (by omega)
  have nd := litT_neg (F := out) (by rw [hv]; exact hd) (by omega)
  have f4 : ∀ lit (_ : lit = n + 1 ∨ lit = -(n + 1)) x y z l', LitOk (n + 1) x → LitOk (n + 1) y → LitOk (n + 1) z → (hasB [x, y, z, l'] lit && otherB [x, y, z, l'] lit out (n + 1)) = (l' == lit && (!litT out x && (!litT out y && (!litT out z && true)))) := fun lit hl x y z l' hx hy hz =>
    forced_one [x, y, z] l' hv (by omega) hl (by simp; exact ⟨hx, hy, hz⟩)
  have f3 : ∀ lit (_ : lit = n + 1 ∨ lit = -(n + 1)) x y l', LitOk (n + 1) x → LitOk (n + 1) y → (hasB [x, y, l'] lit && otherB [x, y, l'] lit out (n + 1)) = (l' == lit && (!litT out x && (!litT out y && true))) := fun lit hl x y l' hx hy =>
    forced_one [x, y] l' hv (by omega) hl (by simp; exact ⟨hx, hy⟩)
  have ep0 : ((-n : Int) == n + 1) = false := by simp only [beq_eq_false_iff_ne]; omega
  have ep1 : ((n : Int) == n + 1) = false := by simp only [beq_eq_false_iff_ne]; omega
  have ep2 : ((n + 1 : Int) == n + 1) = true := by simp
  have ep3 : ((-(n + 1) : Int) == n + 1) = false := by simp only [beq_eq_false_iff_ne]; omega
  have em0 : ((-n : Int) == -(n + 1)) = false := by simp only [beq_eq_false_iff_ne]; omega
  have em1 : ((n : Int) == -(n + 1)) = false := by simp only [beq_eq_false_iff_ne]; omega
  have em2 : ((n + 1 : Int) == -(n + 1)) = false := by simp only [beq_eq_false_iff_ne]; omega
  have em3 : ((-(n + 1) : Int) == -(n + 1)) = true := by simp
  rw [addC_three]
  unfold forcedB cV
  simp only [List.any_cons, List.any_nil, cntT]
  constructor
  · rw [f4 (n + 1) (.inl rfl) a b d (-n) ha hbb hd, f4 (n + 1) (.inl rfl) (-a) b d n ha.neg hbb hd, f4 (n + 1) (.inl rfl) a (-b) d n ha hbb.neg hd, f4 (n + 1) (.inl rfl) (-a) (-b) d (-n) ha.neg hbb.neg hd, f4 (n + 1) (.inl rfl) a b (-d) n ha hbb hd.neg, f4 (n + 1) (.inl rfl) (-a) b (-d) (-n) ha.neg hbb hd.neg, f4 (n + 1) (.inl rfl) a (-b) (-d) (-n) ha hbb.neg hd.neg, f4 (n + 1) (.inl rfl) (-a) (-b) (-d) n ha.neg hbb.neg hd.neg, f3 (n + 1) (.inl rfl) (-a) (-b) (n + 1) ha.neg hbb.neg, f3 (n + 1) (.inl rfl) (-a) (-d) (n + 1) ha.neg hd.neg, f3 (n + 1) (.inl rfl) (-b) (-d) (n + 1) hbb.neg hd.neg, f3 (n + 1) (.inl rfl) a b (-(n + 1)) ha hbb, f3 (n + 1) (.inl rfl) a d (-(n + 1)) ha hd, f3 (n + 1) (.inl rfl) b d (-(n + 1)) hbb hd, ep0, ep1, ep2, ep3, na, nb, nd]
    cases litT out a <;> cases litT out b <;> cases litT out d <;> rfl
  · rw [f4 (-(n + 1)) (.inr rfl) a b d (-n) ha hbb hd, f4 (-(n + 1)) (.inr rfl) (-a) b d n ha.neg hbb hd, f4 (-(n + 1)) (.inr rfl) a (-b) d n ha hbb.neg hd, f4 (-(n + 1)) (.inr rfl) (-a) (-b) d (-n) ha.neg hbb.neg hd, f4 (-(n + 1)) (.inr rfl) a b (-d) n ha hbb hd.neg, f4 (-(n + 1)) (.inr rfl) (-a) b (-d) (-n) ha.neg hbb hd.neg, f4 (-(n + 1)) (.inr rfl) a (-b) (-d) (-n) ha hbb.neg hd.neg, f4 (-(n + 1)) (.inr rfl) (-a) (-b) (-d) n ha.neg hbb.neg hd.neg, f3 (-(n + 1)) (.inr rfl) (-a) (-b) (n + 1) ha.neg hbb.neg, f3 (-(n + 1)) (.inr rfl) (-a) (-d) (n + 1) ha.neg hd.neg, f3 (-(n + 1)) (.inr rfl) (-b) (-d) (n + 1) hbb.neg hd.neg, f3 (-(n + 1)) (.inr rfl) a b (-(n + 1)) ha hbb, f3 (-(n + 1)) (.inr rfl) a d (-(n + 1)) ha hd, f3 (-(n + 1)) (.inr rfl) b d (-(n + 1)) hbb hd, em0, em1, em2, em3, na, nb, nd]
    cases litT out a <;> cases litT out b <;> cases litT out d <;> rfl

theorem mid_s (l : List Int) (n : Int) (out : List Bool) (hv : (out.length : Int) = n) (hn : 1 ≤ n) (hb : n + 2 ≤ 65537) (h : 1 < l.length) (hl : ∀ x ∈ l, LitOk n x) :
    forcedB (addC (l.take 3) n (n + 1)) n n out = sV out (l.take 3) ∧ forcedB (addC (l.take 3) n (n + 1)) (-n) n out = !sV out (l.take 3) := by
  rcases take_two_three l h with ⟨a, b, e, el⟩ | ⟨a, b, d, t, e, el⟩
  · rw [e]; exact mid_two a b n out hv hn hb (hl a (by simp [el])) (hl b (by simp [el]))
  · rw [e]; exact mid_three a b d n out hv hn hb (hl a (by simp [el])) (hl b (by simp [el])) (hl d (by simp [el]))
theorem mid_c (l : List Int) (n : Int) (out : List Bool) (hv : (out.length : Int) = n + 1) (hn : 1 ≤ n) (hb : n + 2 ≤ 65537) (h : 1 < l.length) (hl : ∀ x ∈ l, LitOk n x) :
    forcedB (addC (l.take 3) n (n + 1)) (n + 1) (n + 1) out = cV out (l.take 3) ∧ forcedB (addC (l.take 3) n (n + 1)) (-(n + 1)) (n + 1) out = !cV out (l.take 3) := by
  rcases take_two_three l h with ⟨a, b, e, el⟩ | ⟨a, b, d, t, e, el⟩
  · rw [e]; exact mid_two' a b n out hv hn hb (hl a (by simp [el])) (hl b (by simp [el]))
  · rw [e]; exact mid_three' a b d n out hv hn hb (hl a (by simp [el])) (hl b (by simp [el])) (hl d (by simp [el]))
theorem add_holds (l : List Int) (n : Int) (F : List Bool) (hF : (F.length : Int) ≤ 65537) (hn : 1 ≤ n) (hb : n + 2 ≤ F.length) (h : 1 < l.length) (hl : ∀ x ∈ l, LitOk n x) (hs : litT F n = sV F (l.take 3)) (hc : litT F (n + 1) = cV F (l.take 3)) :
    ∀ c ∈ addC (l.take 3) n (n + 1), c.any (litT F) = true := by
  have ns := litT_neg (F := F) (x := n) ⟨by omega, by omega, by omega⟩ hF
  have nc := litT_neg (F := F) (x := n + 1) ⟨by omega, by omega, by omega⟩ hF
  rcases take_two_three l h with ⟨a, b, e, el⟩ | ⟨a, b, d, t, e, el⟩
  · have na := litT_neg (F := F) ((hl a (by simp [el])).mono (by omega)) hF
    have nb := litT_neg (F := F) ((hl b (by simp [el])).mono (by omega)) hF
    rw [e] at hs hc ⊢
    rw [addC_two]
    unfold sV at hs
    unfold cV at hc
    simp only [cntT] at hs hc
    simp only [List.mem_cons, List.not_mem_nil, or_false, forall_eq_or_imp, forall_eq, List.any_cons, List.any_nil]
    rw [na, nb, ns, nc, hs, hc]
    cases litT F a <;> cases litT F b <;> decide
  · have na := litT_neg (F := F) ((hl a (by simp [el])).mono (by omega)) hF
    have nb := litT_neg (F := F) ((hl b (by simp [el])).mono (by omega)) hF
    have nd := litT_neg (F := F) ((hl d (by simp [el])).mono (by omega)) hF
    rw [e] at hs hc ⊢
    rw [addC_three]
    unfold sV at hs
    unfold cV at hc
    simp only [cntT] at hs hc
    simp only [List.mem_cons, List.not_mem_nil, or_false, forall_eq_or_imp, forall_eq, List.any_cons, List.any_nil]
    rw [na, nb, nd, ns, nc, hs, hc]
    cases litT F a <;> cases litT F b <;> cases litT F d <;> decide
theorem cnt_val (F : List Bool) (l : List Int) (h : 1 < l.length) : (sV F (l.take 3)).toNat + 2 * (cV F (l.take 3)).toNat = cntT F (l.take 3) := by
  have h3 : cntT F (l.take 3) ≤ 3 := by
    rcases take_two_three l h with ⟨a, b, e, _⟩ | ⟨a, b, d, t, e, _⟩
    · rw [e]; simp only [cntT]; cases litT F a <;> cases litT F b <;> decide
    · rw [e]; simp only [cntT]; cases litT F a <;> cases litT F b <;> cases litT F d <;> decide
  unfold sV cV
  generalize cntT F (l.take 3) = m at h3
  rcases m with _ | _ | _ | _ | m <;> first | rfl | omega
end Go.Proofs.YtogolfneckhnaaaDoor
