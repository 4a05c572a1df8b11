/- Lines of a proof's text as plain lists of bytes: words, kinds, literals; what Put writes and Get reads. Plain definitions and lemmas; no program in sight. -/
import Derived.Test.YtbpbndlgfiammaaGreatDoorSpecP
import Derived.Lib.AtoiAll
import Derived.Lib.CountLaws
import Derived.Lib.SplitLaws
set_option linter.unusedSimpArgs false
set_option linter.unusedVariables false
set_option linter.unnecessarySimpa false
namespace Go.Proofs.YtbpbndlgfiammaaGreatDoor.Cn
open Go Go.RowKit En

def splitI (c : Int) : List Int → List (List Int)
  | [] => [[]]
  | x :: l => if x = c then [] :: splitI c l else match splitI c l with | w :: ws => (x :: w) :: ws | [] => [[x]]
theorem splitI_ne (c : Int) : ∀ xs : List Int, ∃ w ws, splitI c xs = w :: ws
  | [] => ⟨[], [], rfl⟩
  | x :: l => by
    obtain ⟨w, ws, e⟩ := splitI_ne c l
    unfold splitI
    split
    · exact ⟨[], _, rfl⟩
    · rw [e]; exact ⟨x :: w, ws, rfl⟩
theorem splitI_miss {c : Int} : ∀ {xs : List Int}, c ∉ xs → splitI c xs = [xs]
  | [], _ => rfl
  | x :: l, h => by
    have h1 : ¬ x = c := fun e => h (by rw [e]; exact List.mem_cons_self)
    unfold splitI
    rw [if_neg h1, splitI_miss (fun e => h (List.mem_cons_of_mem _ e))]
theorem splitI_hit {c : Int} {r : List Int} : ∀ {a : List Int}, c ∉ a → splitI c (a ++ c :: r) = a :: splitI c r
  | [], _ => by simp [splitI]
  | x :: a, h => by
    have h1 : ¬ x = c := fun e => h (by rw [e]; exact List.mem_cons_self)
    rw [List.cons_append]
    conv => lhs; unfold splitI
    rw [if_neg h1, splitI_hit (fun e => h (List.mem_cons_of_mem _ e))]
theorem splitI_mem {c : Int} : ∀ {xs w : List Int}, w ∈ splitI c xs → ∀ x ∈ w, x ∈ xs
  | [], w, h, x, hx => by simp [splitI] at h; subst h; cases hx
  | y :: l, w, h, x, hx => by
    unfold splitI at h
    obtain ⟨v, vs, e⟩ := splitI_ne c l
    split at h
    · rcases List.mem_cons.1 h with h | h
      · subst h; cases hx
      · exact List.mem_cons_of_mem _ (splitI_mem h x hx)
    · rw [e] at h
      rcases List.mem_cons.1 h with h | h
      · subst h
        rcases List.mem_cons.1 hx with h | h
        · rw [h]; exact List.mem_cons_self
        · exact List.mem_cons_of_mem _ (splitI_mem (c := c) (xs := l) (w := v) (by rw [e]; exact List.mem_cons_self) x h)
      · exact List.mem_cons_of_mem _ (splitI_mem (c := c) (xs := l) (w := w) (by rw [e]; exact List.mem_cons_of_mem _ h) x hx)
theorem splitI_len (c : Int) : ∀ xs : List Int, (splitI c xs).length ≤ xs.length + 1 ∧ ∀ w ∈ splitI c xs, w.length ≤ xs.length
  | [] => by simp [splitI]
  | x :: l => by
    obtain ⟨h1, h2⟩ := splitI_len c l
    obtain ⟨v, vs, e⟩ := splitI_ne c l
    unfold splitI
    split
    · refine ⟨by simp; omega, fun w hw => ?_⟩
      rcases List.mem_cons.1 hw with h | h
      · subst h; simp
      · have := h2 w h; simp; omega
    · rw [e] at h1 h2 ⊢
      simp only [List.length_cons] at h1 ⊢
      refine ⟨by omega, fun w hw => ?_⟩
      rcases List.mem_cons.1 hw with h | h
      · have := h2 v List.mem_cons_self; subst h; simp; omega
      · have := h2 w (List.mem_cons_of_mem _ h); omega
/-- where a byte first stands -/
theorem index_one (c : UInt8) : ∀ l : List UInt8, (Lib.index l [c] = -1 ∧ c ∉ l) ∨ ∃ a r, l = a ++ c :: r ∧ c ∉ a ∧ Lib.index l [c] = a.length
  | [] => .inl ⟨rfl, by simp⟩
  | b :: l => by
    unfold Lib.index
    by_cases h : c = b
    · subst h
      exact .inr ⟨[], l, rfl, by simp, by simp [List.isPrefixOf]⟩
    · have hp : [c].isPrefixOf (b :: l) = false := by simp [List.isPrefixOf, h]
      rw [hp]
      simp only [Bool.false_eq_true, if_false]
      rcases index_one c l with ⟨h1, h2⟩ | ⟨a, r, h1, h2, h3⟩
      · exact .inl ⟨by rw [h1]; rfl, by simp [h, h2]⟩
      · refine .inr ⟨b :: a, r, by rw [h1]; rfl, by simp [h, h2], ?_⟩
        rw [h3]
        have : ((a.length : Int) == -1) = false := by rw [beq_eq_false_iff_ne]; omega
        rw [this]; simp
theorem ba_ext {a b : ByteArray} (h : a.data.toList = b.data.toList) : a = b := by
  cases a; cases b; simp at h; simp; exact h
theorem bytesI_inj {a b : ByteArray} (h : bytesI a = bytesI b) : a = b := by
  refine ba_ext ?_
  unfold bytesI at h
  exact (List.map_inj_right (fun x y e => UInt8.toNat_inj.1 (by omega))).1 h
theorem bytes_is (z : ByteArray) : isBytes (bytesI z) := fun x hx => by
  unfold bytesI at hx
  obtain ⟨b, _, rfl⟩ := List.mem_map.1 hx
  have := b.toNat_lt
  omega
theorem str_bytesI (z : ByteArray) : strOfNums (bytesI z) = z := bytesI_inj (bytesI_str (bytes_is z))
theorem bytesI_take (z : ByteArray) (i : Nat) : bytesI (z.extract 0 i) = (bytesI z).take i := by
  unfold bytesI
  rw [← List.map_take]
  congr 1
  simp
theorem bytesI_dropN (z : ByteArray) (i : Nat) : bytesI (z.extract i z.size) = (bytesI z).drop i := by
  unfold bytesI
  rw [← List.map_drop]
  congr 1
  rw [ByteArray.data_extract, Array.toList_extract]
  show (z.data.toList.extract i z.data.size) = _
  rw [List.extract_eq_take_drop, List.take_of_length_le (by rw [List.length_drop, Array.length_toList]; exact Nat.le_refl _)]
/-- strings.Split at one blank -/
theorem split_is : ∀ (k : Nat) (s : ByteArray), s.size ≤ k → Lib.splitB ⟨#[32]⟩ 0 (Lib.countB s ⟨#[32]⟩) s = (splitI 32 (bytesI s)).map strOfNums := by
  intro k
  induction k with
  | zero =>
    intro s hs
    have h0 : s.data.toList = [] := List.eq_nil_of_length_eq_zero (by rw [Array.length_toList]; exact Nat.le_zero.1 hs)
    have hm : Lib.indexB s ⟨#[32]⟩ = -1 := by show Lib.index s.data.toList _ = _; rw [h0]; rfl
    rw [Lib.countB_miss _ _ hm, Lib.splitB_zero]
    have hb : bytesI s = [] := by unfold bytesI; rw [h0]; rfl
    rw [hb]
    show [s] = [strOfNums []]
    rw [← hb, str_bytesI]
  | succ k ih =>
    intro s hs
    rcases index_one 32 s.data.toList with ⟨h1, h2⟩ | ⟨a, r, h1, h2, h3⟩
    · have hm : Lib.indexB s ⟨#[32]⟩ = -1 := h1
      rw [Lib.countB_miss _ _ hm, Lib.splitB_zero, splitI_miss, List.map_singleton, str_bytesI]
      intro hc
      unfold bytesI at hc
      obtain ⟨b, hb, e⟩ := List.mem_map.1 hc
      exact h2 (by have : b = 32 := UInt8.toNat_inj.1 (by show b.toNat = 32; omega); rw [← this]; exact hb)
    · have hm : Lib.indexB s ⟨#[32]⟩ = (a.length : Nat) := h3
      rw [Lib.countB_hit s _ a.length (by decide) hm, Nat.add_comm 1, Lib.splitB_hit _ _ _ _ _ hm]
      have hsz : s.size = a.length + 1 + r.length := by
        have := congrArg List.length h1
        rw [Array.length_toList] at this
        have h5 : s.data.size = s.size := rfl
        simp at this; omega
      have hlt : (s.extract (a.length + 1) s.size).size ≤ k := by rw [ByteArray.size_extract]; omega
      have e1 : (⟨#[32]⟩ : ByteArray).size = 1 := rfl
      rw [e1, ih _ hlt, bytesI_dropN]
      have hbs : bytesI s = (a.map fun b => (b.toNat : Int)) ++ 32 :: (r.map fun b => (b.toNat : Int)) := by unfold bytesI; rw [h1]; simp
      have hla : (a.map fun b => (b.toNat : Int)).length = a.length := List.length_map ..
      have hna : (32 : Int) ∉ a.map fun b => (b.toNat : Int) := fun hc => by
        obtain ⟨b, hb, e⟩ := List.mem_map.1 hc
        exact h2 (by have : b = 32 := UInt8.toNat_inj.1 (by show b.toNat = 32; omega); rw [← this]; exact hb)
      have hd : (bytesI s).drop (a.length + 1) = r.map fun b => (b.toNat : Int) := by
        rw [hbs, ← hla, List.drop_append, List.drop_eq_nil_of_le (by omega)]
        simp
      have ht : (bytesI s).take a.length = a.map fun b => (b.toNat : Int) := by rw [hbs, ← hla, List.take_left']; rfl
      rw [hd, hbs, splitI_hit hna, List.map_cons]
      congr 1
      rw [← str_bytesI (s.extract 0 (a.length + 0)), bytesI_take, Nat.add_zero, ht]
/-- a literal as Put writes it -/
def litW (w : List Int) : Bool := mayP (numN w) 65536 && itoaI (numN w) == w
theorem litW_of {w : List Int} {x : Int} (hx : mayP x 65536 = true) (h : itoaI x = w) : litW w = true ∧ numN w = x := by
  have hb := mayP_iff.1 hx
  have hn : numN w = x := by rw [← h]; exact (num_itoa hb.2.1 hb.2.2).2
  refine ⟨?_, hn⟩
  unfold litW
  rw [hn, hx, h]; simp
theorem parse_app : ∀ (l m : List UInt8) (acc a : Nat), Lib.parseUint10 acc l = .ok a → Lib.parseUint10 acc (l ++ m) = Lib.parseUint10 a m
  | [], m, acc, a, h => by simp only [Lib.parseUint10] at h; cases h; rfl
  | c :: l, m, acc, a, h => by
    rw [List.cons_append]
    simp only [Lib.parseUint10] at h ⊢
    by_cases h1 : 48 ≤ c.toNat ∧ c.toNat ≤ 57
    · rw [if_pos h1] at h ⊢
      by_cases h2 : 1844674407370955162 ≤ acc
      · rw [if_pos h2] at h; cases h
      · rw [if_neg h2] at h ⊢
        by_cases h3 : 18446744073709551616 ≤ acc * 10 + (c.toNat - 48)
        · rw [if_pos h3] at h; cases h
        · rw [if_neg h3] at h ⊢
          exact parse_app l m _ a h
    · rw [if_neg h1] at h; cases h
theorem parse_dig {a d : Nat} (hd : d < 10) (ha : a * 10 + d < 18446744073709551610) : Lib.parseUint10 a [UInt8.ofNat (48 + d)] = .ok (a * 10 + d) := by
  have hc : (UInt8.ofNat (48 + d)).toNat = 48 + d := by rw [UInt8.toNat_ofNat']; omega
  unfold Lib.parseUint10
  rw [if_pos (by rw [hc]; omega), if_neg (by omega), if_neg (by rw [hc]; omega), hc, show 48 + d - 48 = d by omega]
  rfl
theorem parse_dec (u : Nat) : u < 18446744073709551610 → Lib.parseUint10 0 (Lib.decDigits u) = .ok u := by
  induction u using Nat.strongRecOn with
  | _ u ih =>
    intro hu
    by_cases h : u < 10
    · rw [Lib.decDigits_one h, parse_dig h (by omega), Nat.zero_mul, Nat.zero_add]
    · rw [Lib.decDigits, dif_neg h, parse_app _ _ _ _ (ih (u / 10) (by omega) (by omega)), parse_dig (by omega) (by omega)]
      rw [show u / 10 * 10 + u % 10 = u by omega]
theorem dec_ne (u : Nat) : Lib.decDigits u ≠ [] := fun e => by
  have := (dgs_all u).2.2.1
  unfold dgs at this
  rw [e] at this; simp at this
theorem dec_first (u : Nat) {c : UInt8} {r : List UInt8} (h : Lib.decDigits u = c :: r) : 48 ≤ c.toNat ∧ c.toNat ≤ 57 := by
  have := (dgs_all u).1 (c.toNat : Int) (by unfold dgs; rw [h]; simp)
  omega
/-- Atoi reads what Itoa writes -/
theorem atoi_itoa {n : Int} (h1 : -65536 ≤ n) (h2 : n ≤ 65536) : Lib.atoiAll (Lib.itoa n) = .ok n := by
  by_cases hn : n < 0
  · obtain ⟨u, rfl⟩ : ∃ u : Nat, n = -(u : Int) := ⟨n.natAbs, by omega⟩
    rw [Lib.itoa_neg u (by omega)]
    unfold Lib.atoiAll
    have e : (45 : UInt8).toNat = 45 := rfl
    simp only [e, or_true, if_true, Lib.parseMag, dec_ne, if_false, parse_dec u (by omega), not_true_eq_false, false_and, true_and]
    rw [if_neg (by omega)]
  · obtain ⟨u, rfl⟩ : ∃ u : Nat, n = u := ⟨n.toNat, by omega⟩
    rw [Lib.itoa_nonneg]
    have hne := dec_ne u
    have hp := parse_dec u (by omega)
    have hf := @dec_first u
    cases hd : Lib.decDigits u with
    | nil => exact absurd hd hne
    | cons c r =>
      have hc := hf hd
      rw [hd] at hp
      unfold Lib.atoiAll
      have e1 : ¬ c.toNat = 43 := by omega
      have e2 : ¬ c.toNat = 45 := by omega
      simp only [e1, e2, or_self, if_false, Lib.parseMag, List.cons_ne_nil, hp, not_false_eq_true, true_and, false_and]
      rw [if_neg (by omega)]
theorem itoa_str (n : Int) : (strOfNums (itoaI n)) = ⟨(Lib.itoa n).toArray⟩ := by
  refine bytesI_inj ?_
  rw [bytesI_str (itoa_bytes n)]
  unfold bytesI itoaI
  simp
/-- what Atoi gives, and whether it fails -/
def atoiV (l : List UInt8) : Int × Bool := match Lib.atoiAll l with
  | .ok v => (v, false)
  | .syntax => (0, true)
  | .range => (Lib.atoiSat l, true)
/-- the program's test of a word -/
def badLit (z : ByteArray) : Bool := ((atoiV z.data.toList).2 || !(mayP (atoiV z.data.toList).1 65536)) || !((strOfNums (itoaI (atoiV z.data.toList).1)).toList == z.toList)
theorem bad_lit (w : List Int) (hw : isBytes w) : badLit (strOfNums w) = !litW w ∧ (litW w = true → (atoiV (strOfNums w).data.toList).1 = numN w) := by
  by_cases hl : litW w = true
  · have h1 : mayP (numN w) 65536 = true ∧ itoaI (numN w) = w := by
      unfold litW at hl; simpa using hl
    have hb := mayP_iff.1 h1.1
    have e : (strOfNums w).data.toList = Lib.itoa (numN w) := by rw [← h1.2, itoa_str, h1.2]
    have ha : atoiV (strOfNums w).data.toList = (numN w, false) := by unfold atoiV; rw [e, atoi_itoa hb.2.1 hb.2.2]
    refine ⟨?_, fun _ => by rw [ha]⟩
    unfold badLit
    rw [ha, h1.1, h1.2, hl]
    simp
  · refine ⟨?_, fun h => absurd h hl⟩
    have hl' : litW w = false := by simpa using hl
    rw [hl']
    cases hb : badLit (strOfNums w) with
    | true => rfl
    | false =>
      exfalso
      unfold badLit at hb
      simp only [Bool.or_eq_false_iff, Bool.not_eq_false'] at hb
      obtain ⟨⟨h1, h2⟩, h3⟩ := hb
      rw [str_inj (itoa_bytes _) hw, beq_iff_eq] at h3
      exact hl (litW_of h2 h3).1
/-- bytes.Cut at a newline -/
def cutN (xs : List Int) : List Int × List Int × Bool := if xs.contains 10 = true then (xs.takeWhile (fun x => x != 10), (xs.dropWhile (fun x => x != 10)).drop 1, true) else (xs, [], false)
theorem cut_hit {a r : List Int} (h : (10 : Int) ∉ a) : cutN (a ++ 10 :: r) = (a, r, true) := by
  have h1 : ∀ x ∈ a, (x != 10) = true := fun x hx => bne_iff_ne.2 fun e => h (e ▸ hx)
  unfold cutN
  rw [if_pos (by simp), List.takeWhile_append_of_pos h1, List.dropWhile_append_of_pos h1]
  simp
theorem cut_miss {xs : List Int} (h : (10 : Int) ∉ xs) : cutN xs = (xs, [], false) := by
  unfold cutN; rw [if_neg (by simpa using h)]
theorem bytesOf_map {xs : List Int} (h : isBytes xs) : (Lib.bytesOf xs).map (fun b => (b.toNat : Int)) = xs := by
  unfold Lib.bytesOf
  rw [List.map_map]
  conv => rhs; rw [← List.map_id xs]
  refine List.map_congr_left fun x hx => ?_
  have := h x hx
  simp only [Function.comp_apply, id]
  rw [UInt8.toNat_ofNat']; omega
theorem cut_index {xs : List Int} (h : isBytes xs) : (Lib.index (Lib.bytesOf xs) [10] = -1 ∧ (10 : Int) ∉ xs) ∨ ∃ a r, xs = a ++ 10 :: r ∧ (10 : Int) ∉ a ∧ Lib.index (Lib.bytesOf xs) [10] = a.length := by
  have hm := bytesOf_map h
  have h10 : ∀ l : List UInt8, (10 : Int) ∈ l.map (fun b => (b.toNat : Int)) → (10 : UInt8) ∈ l := fun l hc => by
    obtain ⟨b, hb, e⟩ := List.mem_map.1 hc
    have : b = 10 := UInt8.toNat_inj.1 (by show b.toNat = 10; omega)
    rw [← this]; exact hb
  rcases index_one 10 (Lib.bytesOf xs) with ⟨h1, h2⟩ | ⟨a, r, h1, h2, h3⟩
  · exact .inl ⟨h1, fun hc => h2 (h10 _ (by rw [hm]; exact hc))⟩
  · refine .inr ⟨a.map fun b => (b.toNat : Int), r.map fun b => (b.toNat : Int), ?_, fun hc => h2 (h10 _ hc), by rw [h3, List.length_map]⟩
    rw [← hm, h1]; simp
/-- where a word stands among the letters -/
def kinI (w : List Int) : Int := Lib.index [32, 111, 108, 100] (strOfNums w).data.toList
def wd (ws : List (List Int)) (i : Nat) : List Int := ws.getD i []
def headW (ws : List (List Int)) : Bool := decide ((wd ws 0).length = 1) && (decide (1 ≤ kinI (wd ws 0)) && (decide (2 ≤ ws.length) && wd ws (ws.length - 1) == [48]))
def midW (ws : List (List Int)) : List (List Int) := (ws.take (ws.length - 1)).drop 1
def lnK (xs : List Int) : Int := kinI (wd (splitI 32 xs) 0)
def lnL (xs : List Int) : List Int := if headW (splitI 32 xs) = true then ((midW (splitI 32 xs)).takeWhile litW).map numN else []
def lnOk (xs : List Int) : Bool := headW (splitI 32 xs) && (midW (splitI 32 xs)).all litW
end Go.Proofs.YtbpbndlgfiammaaGreatDoor.Cn
