/- What the constraint package computes, as plain functions on lists and numbers; no program in sight. -/
namespace Go.Proofs.Ytibfgeoiemmjoaa

/-- coefficients, literals, bound -/
structure LinV where
  C : List Int
  L : List Int
  B : Int
deriving DecidableEq
def lin0 : LinV := ⟨[], [], 0⟩
def offN (c : Int) : Bool := decide (c < -1099511627776) || decide (1099511627776 < c)
def wrongL (n x : Int) : Bool := decide (x = 0) || (decide (n < x) || decide (x < -n))
def lcheck (l : LinV) (n : Int) : Int :=
  if n < 0 ∨ 65536 < n ∨ l.C.length ≠ l.L.length ∨ offN l.B = true then 1
  else if l.C.any offN = true ∨ l.L.any (wrongL n) = true then 1
  else if 4096 < l.L.length then 2 else 0
theorem lcheck_ok {l : LinV} {n : Int} (h : lcheck l n = 0) : 0 ≤ n ∧ n ≤ 65536 ∧ l.C.length = l.L.length ∧ (-1099511627776 ≤ l.B ∧ l.B ≤ 1099511627776) ∧ (∀ c ∈ l.C, -1099511627776 ≤ c ∧ c ≤ 1099511627776) ∧ (∀ x ∈ l.L, x ≠ 0 ∧ -n ≤ x ∧ x ≤ n) ∧ l.L.length ≤ 4096 := by
  unfold lcheck at h
  split at h
  · omega
  · split at h
    · omega
    · split at h
      · omega
      · rename_i h1 h2 h3
        have hB : offN l.B = false := by
          cases hx : offN l.B with
          | false => rfl
          | true => exact absurd (.inr (.inr (.inr hx))) h1
        simp [offN] at hB
        have hC : ∀ c ∈ l.C, offN c = false := by
          have : ¬ l.C.any offN = true := fun e => h2 (.inl e)
          simpa using this
        have hL : ∀ x ∈ l.L, wrongL n x = false := by
          have : ¬ l.L.any (wrongL n) = true := fun e => h2 (.inr e)
          simpa using this
        refine ⟨by omega, by omega, by omega, by omega, fun c hc => ?_, fun x hx => ?_, by omega⟩
        · have := hC c hc
          simp [offN] at this
          omega
        · have := hL x hx
          simp [wrongL] at this
          omega
theorem lcheck_mk {l : LinV} {n : Int} (h1 : 0 ≤ n) (h2 : n ≤ 65536) (h3 : l.C.length = l.L.length) (h4 : -1099511627776 ≤ l.B ∧ l.B ≤ 1099511627776) (h5 : ∀ c ∈ l.C, -1099511627776 ≤ c ∧ c ≤ 1099511627776) (h6 : ∀ x ∈ l.L, x ≠ 0 ∧ -n ≤ x ∧ x ≤ n) (h7 : l.L.length ≤ 4096) : lcheck l n = 0 := by
  unfold lcheck
  have hB : offN l.B = false := by simp [offN]; omega
  rw [if_neg (by rw [hB]; simp; omega), if_neg, if_neg (by omega)]
  rw [not_or]
  constructor
  · simp only [List.any_eq_true, not_exists, not_and]
    intro c hc
    have := h5 c hc
    simp [offN]; omega
  · simp only [List.any_eq_true, not_exists, not_and]
    intro x hx
    have := h6 x hx
    simp [wrongL]; omega

/-- the sum of the coefficients of a literal -/
def cfZ : List (Int × Int) → Int → Int
  | [], _ => 0
  | q :: t, x => (if q.2 = x then q.1 else 0) + cfZ t x
theorem cfZ_app : ∀ (a b : List (Int × Int)) (x : Int), cfZ (a ++ b) x = cfZ a x + cfZ b x
  | [], b, x => by simp [cfZ]
  | q :: a, b, x => by simp only [List.cons_append, cfZ, cfZ_app a b x]; omega
def cf (l : LinV) (x : Int) : Int := cfZ (l.C.zip l.L) x
/-- v put into a strictly increasing list -/
def insV (v : Int) : List Int → List Int
  | [] => [v]
  | y :: t => if y < v then y :: insV v t else if y = v then y :: t else v :: y :: t
def varsZ (l : List Int) : List Int := l.foldl (fun out x => insV (x.natAbs : Int) out) []
/-- the canonical term of a variable -/
def termV (a b v : Int) : List (Int × Int) := if b < a then [(a - b, v)] else if a < b then [(b - a, -v)] else []
def termsP (l : LinV) (vs : List Int) : List (Int × Int) := vs.flatMap fun v => termV (cf l v) (cf l (-v)) v
def minsP (l : LinV) : List Int → Int
  | [] => 0
  | v :: t => min (cf l v) (cf l (-v)) + minsP l t
def sumF1 : List (Int × Int) → Int
  | [] => 0
  | q :: t => q.1 + sumF1 t
/-- the canonical form of a well-formed constraint -/
def normW (l : LinV) : LinV :=
  if l.B - minsP l (varsZ l.L) ≤ 0 then lin0
  else if sumF1 (termsP l (varsZ l.L)) < l.B - minsP l (varsZ l.L) then ⟨[], [], 1⟩
  else ⟨(termsP l (varsZ l.L)).map fun q => min q.1 (l.B - minsP l (varsZ l.L)), (termsP l (varsZ l.L)).map (·.2), l.B - minsP l (varsZ l.L)⟩
def normP (l : LinV) : LinV := if lcheck l 65536 = 0 then normW l else lin0
/-- a literal under an assignment of lin's: no bound on the variable -/
def lval (a : List Bool) (x : Int) : Bool := (decide (x.natAbs < a.length) && a.getD x.natAbs false) == decide (0 < x)
def lsumZ (p : Int → Bool) : List (Int × Int) → Int
  | [] => 0
  | q :: t => (if p q.2 then q.1 else 0) + lsumZ p t
theorem lsumZ_app (p : Int → Bool) : ∀ a b, lsumZ p (a ++ b) = lsumZ p a + lsumZ p b
  | [], b => by simp [lsumZ]
  | q :: a, b => by simp only [List.cons_append, lsumZ, lsumZ_app p a b]; omega
def lholds (p : Int → Bool) (l : LinV) : Bool := decide (l.B ≤ lsumZ p (l.C.zip l.L))
def lvalue (l : LinV) (a : List Bool) : Bool := decide (lcheck l 65536 = 0) && lholds (lval a) l
def unlikeP (n : Int) : List Int → Bool
  | lits => (List.range lits.length).all fun i => !(wrongL n (lits.getD i 0)) && !((lits.take i).any (· == lits.getD i 0)) && !((lits.take i).any (· == -lits.getD i 0))
def canP (x : LinV) (lits : List Int) : Int := lsumZ (fun y => !lits.contains (-y)) (x.C.zip x.L)
def forceP (l : LinV) (lits : List Int) : Option (List Int) :=
  if lcheck l 65536 ≠ 0 ∨ unlikeP 65536 lits = false then none
  else if canP (normP l) lits < (normP l).B then none
  else some ((((normP l).C.zip (normP l).L).filter fun q => !lits.contains q.2 && !lits.contains (-q.2) && decide (canP (normP l) lits - (normP l).B < q.1)).map (·.2))
def addP (a b : LinV) : LinV × Int :=
  if lcheck a 65536 ≠ 0 then (lin0, lcheck a 65536) else if lcheck b 65536 ≠ 0 then (lin0, lcheck b 65536)
  else if 4096 < a.L.length + b.L.length ∨ offN (a.B + b.B) = true then (lin0, 2) else (⟨a.C ++ b.C, a.L ++ b.L, a.B + b.B⟩, 0)
def cutP (l : LinV) (d : Int) : LinV × Int :=
  if lcheck l 65536 ≠ 0 then (lin0, lcheck l 65536) else if d < 1 ∨ 1099511627776 < d then (lin0, 1)
  else (⟨(normP l).C.map fun c => (c + d - 1) / d, (normP l).L, ((normP l).B + d - 1) / d⟩, 0)

/-! the variables -/
def Inc : List Int → Prop
  | [] => True
  | x :: t => (∀ y ∈ t, x < y) ∧ Inc t
theorem mem_insV {v y : Int} : ∀ {l : List Int}, y ∈ insV v l ↔ y = v ∨ y ∈ l
  | [] => by simp [insV]
  | z :: t => by
    simp only [insV]
    split
    · rw [List.mem_cons, List.mem_cons, mem_insV (l := t)]
      constructor
      · rintro (h | h | h)
        · exact .inr (.inl h)
        · exact .inl h
        · exact .inr (.inr h)
      · rintro (h | h | h)
        · exact .inr (.inl h)
        · exact .inl h
        · exact .inr (.inr h)
    · split
      · rename_i h; subst h; simp
      · simp
theorem inc_insV (v : Int) : ∀ {l : List Int}, Inc l → Inc (insV v l)
  | [], _ => by simp [insV, Inc]
  | z :: t, h => by
    obtain ⟨h1, h2⟩ := h
    simp only [insV]
    split
    · refine ⟨fun y hy => ?_, inc_insV v h2⟩
      rcases mem_insV.1 hy with rfl | hy
      · assumption
      · exact h1 y hy
    · split
      · exact ⟨h1, h2⟩
      · refine ⟨fun y hy => ?_, h1, h2⟩
        rcases List.mem_cons.1 hy with rfl | hy
        · omega
        · have := h1 y hy; omega
theorem inc_ext : ∀ {a b : List Int}, Inc a → Inc b → (∀ y, y ∈ a ↔ y ∈ b) → a = b
  | [], [], _, _, _ => rfl
  | [], y :: b, _, _, h => absurd ((h y).2 (by simp)) (by simp)
  | x :: a, [], _, _, h => absurd ((h x).1 (by simp)) (by simp)
  | x :: a, y :: b, ha, hb, h => by
    have hxy : x = y := by
      have h1 := (h x).1 (by simp)
      have h2 := (h y).2 (by simp)
      rcases List.mem_cons.1 h1 with h1 | h1
      · exact h1
      · rcases List.mem_cons.1 h2 with h2 | h2
        · exact h2.symm
        · have := ha.1 y h2
          have := hb.1 x h1
          omega
    subst hxy
    congr 1
    refine inc_ext ha.2 hb.2 (fun z => ⟨fun hz => ?_, fun hz => ?_⟩)
    · rcases List.mem_cons.1 ((h z).1 (by simp [hz])) with e | e
      · subst e; have := ha.1 z hz; omega
      · exact e
    · rcases List.mem_cons.1 ((h z).2 (by simp [hz])) with e | e
      · subst e; have := hb.1 z hz; omega
      · exact e
theorem varsZ_snoc (l : List Int) (x : Int) : varsZ (l ++ [x]) = insV (x.natAbs : Int) (varsZ l) := by simp [varsZ]
theorem inc_varsZ (l : List Int) : Inc (varsZ l) := by
  have : ∀ (l : List Int) (o : List Int), Inc o → Inc (l.foldl (fun out x => insV (x.natAbs : Int) out) o) := fun l => by
    induction l with
    | nil => intro o h; exact h
    | cons x t ih => intro o h; exact ih _ (inc_insV _ h)
  exact this l [] trivial
theorem mem_varsZ {l : List Int} {y : Int} : y ∈ varsZ l ↔ ∃ x ∈ l, y = (x.natAbs : Int) := by
  have : ∀ (l : List Int) (o : List Int), y ∈ l.foldl (fun out x => insV (x.natAbs : Int) out) o ↔ y ∈ o ∨ ∃ x ∈ l, y = (x.natAbs : Int) := fun l => by
    induction l with
    | nil => intro o; simp
    | cons x t ih =>
      intro o
      rw [List.foldl_cons, ih, mem_insV]
      constructor
      · rintro ((h | h) | ⟨z, hz, h⟩)
        · exact .inr ⟨x, by simp, h⟩
        · exact .inl h
        · exact .inr ⟨z, by simp [hz], h⟩
      · rintro (h | ⟨z, hz, h⟩)
        · exact .inl (.inr h)
        · rcases List.mem_cons.1 hz with rfl | hz
          · exact .inl (.inl h)
          · exact .inr ⟨z, hz, h⟩
  have h := this l []
  unfold varsZ
  rw [h]
  simp
end Go.Proofs.Ytibfgeoiemmjoaa
