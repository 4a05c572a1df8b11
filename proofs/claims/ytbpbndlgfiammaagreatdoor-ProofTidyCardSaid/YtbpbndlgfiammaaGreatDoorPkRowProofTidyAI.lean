/- Lemmas and contracts for the row. -/
import Derived.Test.YtbpbndlgfiammaaGreatDoorPkRowProofTidyX
import Derived.Lib.AtoiAll
import Derived.Lib.CountLaws
import Derived.Lib.SplitLaws
import Derived.Test.YtbpbndlgfiammaaGreatDoorPkRowProofTidyG
set_option linter.unusedVariables false
set_option linter.unusedSimpArgs false
set_option linter.unnecessarySimpa false
namespace Go.Proofs.YtbpbndlgfiammaaGreatDoor.Cn
open Go Go.RowKit En
def splitI (c : Int) : List Int → List (List Int)
  | [] => [[]]
  | x :: l => if x = c then [] :: splitI c l else match splitI c l with | w :: ws => (x :: w) :: ws | [] => [[x]]
theorem splitI_ne (c : Int) : ∀ xs : List Int, ∃ w ws, splitI c xs = w :: ws
  | [] => ⟨[], [], rfl⟩
  | x :: l => by
    obtain ⟨w, ws, e⟩ := splitI_ne c l
    unfold splitI
    split
    · exact ⟨[], _, rfl⟩
    · rw [e]; exact ⟨x :: w, ws, rfl⟩
theorem splitI_miss {c : Int} : ∀ {xs : List Int}, c ∉ xs → splitI c xs = [xs]
  | [], _ => rfl
  | x :: l, h => by
    have h1 : ¬ x = c := fun e => h (by rw [e]; exact List.mem_cons_self)
    unfold splitI
    rw [if_neg h1, splitI_miss (fun e => h (List.mem_cons_of_mem _ e))]
theorem splitI_hit {c : Int} {r : List Int} : ∀ {a : List Int}, c ∉ a → splitI c (a ++ c :: r) = a :: splitI c r
  | [], _ => by simp [splitI]
  | x :: a, h => by
    have h1 : ¬ x = c := fun e => h (by rw [e]; exact List.mem_cons_self)
    rw [List.cons_append]
    conv => lhs; unfold splitI
    rw [if_neg h1, splitI_hit (fun e => h (List.mem_cons_of_mem _ e))]
theorem splitI_mem {c : Int} : ∀ {xs w : List Int}, w ∈ splitI c xs → ∀ x ∈ w, x ∈ xs
  | [], w, h, x, hx => by simp [splitI] at h; subst h; cases hx
  | y :: l, w, h, x, hx => by
    unfold splitI at h
    obtain ⟨v, vs, e⟩ := splitI_ne c l
    split at h
    · rcases List.mem_cons.1 h with h | h
      · subst h; cases hx
      · exact List.mem_cons_of_mem _ (splitI_mem h x hx)
    · rw [e] at h
      rcases List.mem_cons.1 h with h | h
      · subst h
        rcases List.mem_cons.1 hx with h | h
        · rw [h]; exact List.mem_cons_self
        · exact List.mem_cons_of_mem _ (splitI_mem (c := c) (xs := l) (w := v) (by rw [e]; exact List.mem_cons_self) x h)
      · exact List.mem_cons_of_mem _ (splitI_mem (c := c) (xs := l) (w := w) (by rw [e]; exact List.mem_cons_of_mem _ h) x hx)
theorem splitI_len (c : Int) : ∀ xs : List Int, (splitI c xs).length ≤ xs.length + 1 ∧ ∀ w ∈ splitI c xs, w.length ≤ xs.length
  | [] => by simp [splitI]
  | x :: l => by
    obtain ⟨h1, h2⟩ := splitI_len c l
    obtain ⟨v, vs, e⟩ := splitI_ne c l
    unfold splitI
    split
    · refine ⟨by simp; omega, fun w hw => ?_⟩
      rcases List.mem_cons.1 hw with h | h
      · subst h; simp
      · have := h2 w h; simp; omega
    · rw [e] at h1 h2 ⊢
      simp only [List.length_cons] at h1 ⊢
      refine ⟨by omega, fun w hw => ?_⟩
      rcases List.mem_cons.1 hw with h | h
      · have := h2 v List.mem_cons_self; subst h; simp; omega
      · have := h2 w (List.mem_cons_of_mem _ h); omega
theorem index_one (c : UInt8) : ∀ l : List UInt8, (Lib.index l [c] = -1 ∧ c ∉ l) ∨ ∃ a r, l = a ++ c :: r ∧ c ∉ a ∧ Lib.index l [c] = a.length
  | [] => .inl ⟨rfl, by simp⟩
  | b :: l => by
    unfold Lib.index
    by_cases h : c = b
    · subst h
      exact .inr ⟨[], l, rfl, by simp, by simp [List.isPrefixOf]⟩
    · have hp : [c].isPrefixOf (b :: l) = false := by simp [List.isPrefixOf, h]
      rw [hp]
      simp only [Bool.false_eq_true, if_false]
      rcases index_one c l with ⟨h1, h2⟩ | ⟨a, r, h1, h2, h3⟩
      · exact .inl ⟨by rw [h1]; rfl, by simp [h, h2]⟩
      · refine .inr ⟨b :: a, r, by rw [h1]; rfl, by simp [h, h2], ?_⟩
        rw [h3]
        have : ((a.length : Int) == -1) = false := by rw [beq_eq_false_iff_ne]; omega
        rw [this]; simp
theorem ba_ext {a b : ByteArray} (h : a.data.toList = b.data.toList) : a = b := by
  cases a; cases b; simp at h; simp; exact h
theorem bytesI_inj {a b : ByteArray} (h : bytesI a = bytesI b) : a = b := by
  refine ba_ext ?_
  unfold bytesI at h
  exact (List.map_inj_right (fun x y e => UInt8.toNat_inj.1 (by omega))).1 h
theorem bytes_is (z : ByteArray) : isBytes (bytesI z) := fun x hx => by
  unfold bytesI at hx
  obtain ⟨b, _, rfl⟩ := List.mem_map.1 hx
  have := b.toNat_lt
  omega
theorem str_bytesI (z : ByteArray) : strOfNums (bytesI z) = z := bytesI_inj (bytesI_str (bytes_is z))
theorem bytesI_take (z : ByteArray) (i : Nat) : bytesI (z.extract 0 i) = (bytesI z).take i := by
  unfold bytesI
  rw [← List.map_take]
  congr 1
  simp
theorem bytesI_dropN (z : ByteArray) (i : Nat) : bytesI (z.extract i z.size) = (bytesI z).drop i := by
  unfold bytesI
  rw [← List.map_drop]
  congr 1
  rw [ByteArray.data_extract, Array.toList_extract]
  show (z.data.toList.extract i z.data.size) = _
  rw [List.extract_eq_take_drop, List.take_of_length_le (by rw [List.length_drop, Array.length_toList]; exact Nat.le_refl _)]
theorem split_is : ∀ (k : Nat) (s : ByteArray), s.size ≤ k → Lib.splitB ⟨#[32]⟩ 0 (Lib.countB s ⟨#[32]⟩) s = (splitI 32 (bytesI s)).map strOfNums := by
  intro k
  induction k with
  | zero =>
    intro s hs
    have h0 : s.data.toList = [] := List.eq_nil_of_length_eq_zero (by rw [Array.length_toList]; exact Nat.le_zero.1 hs)
    have hm : Lib.indexB s ⟨#[32]⟩ = -1 := by show Lib.index s.data.toList _ = _; rw [h0]; rfl
    rw [Lib.countB_miss _ _ hm, Lib.splitB_zero]
    have hb : bytesI s = [] := by unfold bytesI; rw [h0]; rfl
    rw [hb]
    show [s] = [strOfNums []]
    rw [← hb, str_bytesI]
  | succ k ih =>
    intro s hs
    rcases index_one 32 s.data.toList with ⟨h1, h2⟩ | ⟨a, r, h1, h2, h3⟩
    · have hm : Lib.indexB s ⟨#[32]⟩ = -1 := h1
      rw [Lib.countB_miss _ _ hm, Lib.splitB_zero, splitI_miss, List.map_singleton, str_bytesI]
      intro hc
      unfold bytesI at hc
      obtain ⟨b, hb, e⟩ := List.mem_map.1 hc
      exact h2 (by have : b = 32 := UInt8.toNat_inj.1 (by show b.toNat = 32; omega); rw [← this]; exact hb)
    · have hm : Lib.indexB s ⟨#[32]⟩ = (a.length : Nat) := h3
      rw [Lib.countB_hit s _ a.length (by decide) hm, Nat.add_comm 1, Lib.splitB_hit _ _ _ _ _ hm]
      have hsz : s.size = a.length + 1 + r.length := by
        have := congrArg List.length h1
        rw [Array.length_toList] at this
        have h5 : s.data.size = s.size := rfl
        simp at this; omega
      have hlt : (s.extract (a.length + 1) s.size).size ≤ k := by rw [ByteArray.size_extract]; omega
      have e1 : (⟨#[32]⟩ : ByteArray).size = 1 := rfl
      rw [e1, ih _ hlt, bytesI_dropN]
      have hbs : bytesI s = (a.map fun b => (b.toNat : Int)) ++ 32 :: (r.map fun b => (b.toNat : Int)) := by unfold bytesI; rw [h1]; simp
      have hla : (a.map fun b => (b.toNat : Int)).length = a.length := List.length_map ..
      have hna : (32 : Int) ∉ a.map fun b => (b.toNat : Int) := fun hc => by
        obtain ⟨b, hb, e⟩ := List.mem_map.1 hc
        exact h2 (by have : b = 32 := UInt8.toNat_inj.1 (by show b.toNat = 32; omega); rw [← this]; exact hb)
      have hd : (bytesI s).drop (a.length + 1) = r.map fun b => (b.toNat : Int) := by
        rw [hbs, ← hla, List.drop_append, List.drop_eq_nil_of_le (by omega)]
        simp
      have ht : (bytesI s).take a.length = a.map fun b => (b.toNat : Int) := by rw [hbs, ← hla, List.take_left']; rfl
      rw [hd, hbs, splitI_hit hna, List.map_cons]
      congr 1
      rw [← str_bytesI (s.extract 0 (a.length + 0)), bytesI_take, Nat.add_zero, ht]
def litW (w : List Int) : Bool := mayP (numN w) 65536 && itoaI (numN w) == w
theorem litW_of {w : List Int} {x : Int} (hx : mayP x 65536 = true) (h : itoaI x = w) : litW w = true ∧ numN w = x := by
  have hb := mayP_iff.1 hx
  have hn : numN w = x := by rw [← h]; exact (num_itoa hb.2.1 hb.2.2).2
  refine ⟨?_, hn⟩
  unfold litW
  rw [hn, hx, h]; simp
theorem parse_app : ∀ (l m : List UInt8) (acc a : Nat), Lib.parseUint10 acc l = .ok a → Lib.parseUint10 acc (l ++ m) = Lib.parseUint10 a m
  | [], m, acc, a, h => by simp only [Lib.parseUint10] at h; cases h; rfl
  | c :: l, m, acc, a, h => by
    rw [List.cons_append]
    simp only [Lib.parseUint10] at h ⊢
    by_cases h1 : 48 ≤ c.toNat ∧ c.toNat ≤ 57
    · rw [if_pos h1] at h ⊢
      by_cases h2 : 1844674407370955162 ≤ acc
      · rw [if_pos h2] at h; cases h
      · rw [if_neg h2] at h ⊢
        by_cases h3 : 18446744073709551616 ≤ acc * 10 + (c.toNat - 48)
        · rw [if_pos h3] at h; cases h
        · rw [if_neg h3] at h ⊢
          exact parse_app l m _ a h
    · rw [if_neg h1] at h; cases h
theorem parse_dig {a d : Nat} (hd : d < 10) (ha : a * 10 + d < 18446744073709551610) : Lib.parseUint10 a [UInt8.ofNat (48 + d)] = .ok (a * 10 + d) := by
  have hc : (UInt8.ofNat (48 + d)).toNat = 48 + d := by rw [UInt8.toNat_ofNat']; omega
  unfold Lib.parseUint10
  rw [if_pos (by rw [hc]; omega), if_neg (by omega), if_neg (by rw [hc]; omega), hc, show 48 + d - 48 = d by omega]
  rfl
theorem parse_dec (u : Nat) : u < 18446744073709551610 → Lib.parseUint10 0 (Lib.decDigits u) = .ok u := by
  induction u using Nat.strongRecOn with
  | _ u ih =>
    intro hu
    by_cases h : u < 10
    · rw [Lib.decDigits_one h, parse_dig h (by omega), Nat.zero_mul, Nat.zero_add]
    · rw [Lib.decDigits, dif_neg h, parse_app _ _ _ _ (ih (u / 10) (by omega) (by omega)), parse_dig (by omega) (by omega)]
      rw [show u / 10 * 10 + u % 10 = u by omega]
theorem dec_ne (u : Nat) : Lib.decDigits u ≠ [] := fun e => by
  have := (dgs_all u).2.2.1
  unfold dgs at this
  rw [e] at this; simp at this
theorem dec_first (u : Nat) {c : UInt8} {r : List UInt8} (h : Lib.decDigits u = c :: r) : 48 ≤ c.toNat ∧ c.toNat ≤ 57 := by
  have := (dgs_all u).1 (c.toNat : Int) (by unfold dgs; rw [h]; simp)
  omega
theorem atoi_itoa {n : Int} (h1 : -65536 ≤ n) (h2 : n ≤ 65536) : Lib.atoiAll (Lib.itoa n) = .ok n := by
  by_cases hn : n < 0
  · obtain ⟨u, rfl⟩ : ∃ u : Nat, n = -(u : Int) := ⟨n.natAbs, by omega⟩
    rw [Lib.itoa_neg u (by omega)]
    unfold Lib.atoiAll
    have e : (45 : UInt8).toNat = 45 := rfl
    simp only [e, or_true, if_true, Lib.parseMag, dec_ne, if_false, parse_dec u (by omega), not_true_eq_false, false_and, true_and]
    rw [if_neg (by omega)]
  · obtain ⟨u, rfl⟩ : ∃ u : Nat, n = u := ⟨n.toNat, by omega⟩
    rw [Lib.itoa_nonneg]
    have hne := dec_ne u
    have hp := parse_dec u (by omega)
    have hf := @dec_first u
    cases hd : Lib.decDigits u with
    | nil => exact absurd hd hne
    | cons c r =>
      have hc := hf hd
      rw [hd] at hp
      unfold Lib.atoiAll
      have e1 : ¬ c.toNat = 43 := by omega
      have e2 : ¬ c.toNat = 45 := by omega
      simp only [e1, e2, or_self, if_false, Lib.parseMag, List.cons_ne_nil, hp, not_false_eq_true, true_and, false_and]
      rw [if_neg (by omega)]
theorem itoa_str (n : Int) : (strOfNums (itoaI n)) = ⟨(Lib.itoa n).toArray⟩ := by
  refine bytesI_inj ?_
  rw [bytesI_str (itoa_bytes n)]
  unfold bytesI itoaI
  simp
def atoiV (l : List UInt8) : Int × Bool := match Lib.atoiAll l with
  | .ok v => (v, false)
  | .syntax => (0, true)
  | .range => (Lib.atoiSat l, true)
def badLit (z : ByteArray) : Bool := ((atoiV z.data.toList).2 || !(mayP (atoiV z.data.toList).1 65536)) || !((strOfNums (itoaI (atoiV z.data.toList).1)).toList == z.toList)
theorem bad_lit (w : List Int) (hw : isBytes w) : badLit (strOfNums w) = !litW w ∧ (litW w = true → (atoiV (strOfNums w).data.toList).1 = numN w) := by
  by_cases hl : litW w = true
  · have h1 : mayP (numN w) 65536 = true ∧ itoaI (numN w) = w := by
      unfold litW at hl; simpa using hl
    have hb := mayP_iff.1 h1.1
    have e : (strOfNums w).data.toList = Lib.itoa (numN w) := by rw [← h1.2, itoa_str, h1.2]
    have ha : atoiV (strOfNums w).data.toList = (numN w, false) := by unfold atoiV; rw [e, atoi_itoa hb.2.1 hb.2.2]
    refine ⟨?_, fun _ => by rw [ha]⟩
    unfold badLit
    rw [ha, h1.1, h1.2, hl]
    simp
  · refine ⟨?_, fun h => absurd h hl⟩
    have hl' : litW w = false := by simpa using hl
    rw [hl']
    cases hb : badLit (strOfNums w) with
    | true => rfl
    | false =>
      exfalso
      unfold badLit at hb
      simp only [Bool.or_eq_false_iff, Bool.not_eq_false'] at hb
      obtain ⟨⟨h1, h2⟩, h3⟩ := hb
      rw [str_inj (itoa_bytes _) hw, beq_iff_eq] at h3
      exact hl (litW_of h2 h3).1
def cutN (xs : List Int) : List Int × List Int × Bool := if xs.contains 10 = true then (xs.takeWhile (fun x => x != 10), (xs.dropWhile (fun x => x != 10)).drop 1, true) else (xs, [], false)
theorem cut_hit {a r : List Int} (h : (10 : Int) ∉ a) : cutN (a ++ 10 :: r) = (a, r, true) := by
  have h1 : ∀ x ∈ a, (x != 10) = true := fun x hx => bne_iff_ne.2 fun e => h (e ▸ hx)
  unfold cutN
  rw [if_pos (by simp), List.takeWhile_append_of_pos h1, List.dropWhile_append_of_pos h1]
  simp
theorem cut_miss {xs : List Int} (h : (10 : Int) ∉ xs) : cutN xs = (xs, [], false) := by
  unfold cutN; rw [if_neg (by simpa using h)]
theorem bytesOf_map {xs : List Int} (h : isBytes xs) : (Lib.bytesOf xs).map (fun b => (b.toNat : Int)) = xs := by
  unfold Lib.bytesOf
  rw [List.map_map]
  conv => rhs; rw [← List.map_id xs]
  refine List.map_congr_left fun x hx => ?_
  have := h x hx
  simp only [Function.comp_apply, id]
  rw [UInt8.toNat_ofNat']; omega
theorem cut_index {xs : List Int} (h : isBytes xs) : (Lib.index (Lib.bytesOf xs) [10] = -1 ∧ (10 : Int) ∉ xs) ∨ ∃ a r, xs = a ++ 10 :: r ∧ (10 : Int) ∉ a ∧ Lib.index (Lib.bytesOf xs) [10] = a.length := by
  have hm := bytesOf_map h
  have h10 : ∀ l : List UInt8, (10 : Int) ∈ l.map (fun b => (b.toNat : Int)) → (10 : UInt8) ∈ l := fun l hc => by
    obtain ⟨b, hb, e⟩ := List.mem_map.1 hc
    have : b = 10 := UInt8.toNat_inj.1 (by show b.toNat = 10; omega)
    rw [← this]; exact hb
  rcases index_one 10 (Lib.bytesOf xs) with ⟨h1, h2⟩ | ⟨a, r, h1, h2, h3⟩
  · exact .inl ⟨h1, fun hc => h2 (h10 _ (by rw [hm]; exact hc))⟩
  · refine .inr ⟨a.map fun b => (b.toNat : Int), r.map fun b => (b.toNat : Int), ?_, fun hc => h2 (h10 _ hc), by rw [h3, List.length_map]⟩
    rw [← hm, h1]; simp
def kinI (w : List Int) : Int := Lib.index [32, 111, 108, 100] (strOfNums w).data.toList
def wd (ws : List (List Int)) (i : Nat) : List Int := ws.getD i []
def headW (ws : List (List Int)) : Bool := decide ((wd ws 0).length = 1) && (decide (1 ≤ kinI (wd ws 0)) && (decide (2 ≤ ws.length) && wd ws (ws.length - 1) == [48]))
def midW (ws : List (List Int)) : List (List Int) := (ws.take (ws.length - 1)).drop 1
def lnK (xs : List Int) : Int := kinI (wd (splitI 32 xs) 0)
def lnL (xs : List Int) : List Int := if headW (splitI 32 xs) = true then ((midW (splitI 32 xs)).takeWhile litW).map numN else []
def lnOk (xs : List Int) : Bool := headW (splitI 32 xs) && (midW (splitI 32 xs)).all litW
end Go.Proofs.YtbpbndlgfiammaaGreatDoor.Cn
namespace Go.Proofs.YtbpbndlgfiammaaGreatDoor.Cn
open Go Go.RowKit En
abbrev oldS : ByteArray := ⟨#[32, 111, 108, 100]⟩
def letW (k : Int) : Int := (bytesI oldS).getD k.toNat 0
def litsW (l : List Int) : List Int := l.flatMap fun y => 32 :: itoaI y
def lineB (x : Int × List Int) : List Int := letW x.1 :: (litsW x.2 ++ [32, 48, 10])
def putP (p : List (Int × List Int)) : List Int := p.flatMap lineB
def szP (p : List (Int × List Int)) : Nat := (p.map fun x => 1 + x.2.length).sum
theorem litsW_next {l : List Int} {k : Nat} (hk : k < l.length) (X : List Int) : ((X ++ litsW (l.take k)) ++ [32]) ++ itoaI (l.getD k 0) = X ++ litsW (l.take (k + 1)) := by
  have e : l.take (k + 1) = l.take k ++ [l.getD k 0] := by rw [List.take_add_one]; simp [List.getD, List.getElem?_eq_getElem hk]
  rw [e]; simp [litsW]
theorem putP_next {p : List (Int × List Int)} {i : Nat} (hi : i < p.length) : ((putP (p.take i) ++ [letW (p.getD i (0, [])).1]) ++ litsW (p.getD i (0, [])).2) ++ [32, 48, 10] = putP (p.take (i + 1)) := by
  have e : p.take (i + 1) = p.take i ++ [p.getD i (0, [])] := by rw [List.take_add_one]; simp [List.getD, List.getElem?_eq_getElem hi]
  rw [e]; simp [putP, lineB]
theorem tail_bytes : bytesI (⟨#[32, 48, 10]⟩ : ByteArray) = [32, 48, 10] := by decide
theorem putP_step {p : List (Int × List Int)} {i k : Nat} (hi : i < p.length) (hk : k = (p.getD i (0, [])).2.length) : ((putP (p.take i) ++ [letW (p.getD i (0, [])).1]) ++ litsW ((p.getD i (0, [])).2.take k)) ++ bytesI (⟨#[32, 48, 10]⟩ : ByteArray) = putP (p.take (i + 1)) := by
  rw [tail_bytes, hk, List.take_length, putP_next hi]
theorem litsW_len {l : List Int} (h : ∀ x ∈ l, -65536 ≤ x ∧ x ≤ 65536) : (litsW l).length ≤ 22 * l.length := by
  induction l with
  | nil => simp [litsW]
  | cons x l ih =>
    have h1 := ih fun y hy => h y (List.mem_cons_of_mem _ hy)
    have h2 := h x List.mem_cons_self
    have h3 := itoa_len (n := x) (by omega) (by omega)
    have e : litsW (x :: l) = 32 :: itoaI x ++ litsW l := by simp [litsW]
    rw [e]; simp only [List.length_cons, List.length_append]; omega
theorem putP_len {p : List (Int × List Int)} (h : ∀ x ∈ p, ∀ y ∈ x.2, -65536 ≤ y ∧ y ≤ 65536) : (putP p).length ≤ 22 * szP p := by
  induction p with
  | nil => simp [putP, szP]
  | cons x p ih =>
    have h1 := ih fun y hy => h y (List.mem_cons_of_mem _ hy)
    have h2 := litsW_len (h x List.mem_cons_self)
    have e : putP (x :: p) = lineB x ++ putP p := by simp [putP]
    have e2 : szP (x :: p) = 1 + x.2.length + szP p := by simp [szP]
    rw [e, e2]; simp only [List.length_append, lineB, List.length_cons, List.length_nil]; omega
theorem szP_app (p q : List (Int × List Int)) : szP (p ++ q) = szP p + szP q := by simp [szP]
theorem szP_at {p : List (Int × List Int)} {i : Nat} (hi : i < p.length) : szP (p.take i) + (1 + (p.getD i (0, [])).2.length) ≤ szP p := by
  have e : p = p.take i ++ ([p.getD i (0, [])] ++ p.drop (i + 1)) := by
    conv => lhs; rw [← List.take_append_drop i p, List.drop_eq_getElem_cons hi]
    simp [List.getD, List.getElem?_eq_getElem hi]
  conv => rhs; rw [e]
  rw [szP_app, szP_app]
  have : szP [p.getD i (0, [])] = 1 + (p.getD i (0, [])).2.length := by simp [szP]
  omega
theorem szP_take (p : List (Int × List Int)) (i : Nat) : szP (p.take i) ≤ szP p := by
  conv => rhs; rw [← List.take_append_drop i p, szP_app]
  omega
theorem len_szP (p : List (Int × List Int)) : p.length ≤ szP p := by
  induction p with
  | nil => simp
  | cons x p ih => have e2 : szP (x :: p) = 1 + x.2.length + szP p := by simp [szP]
                   rw [e2]; simp only [List.length_cons]; omega
theorem mem_szP {p : List (Int × List Int)} {x : Int × List Int} (hx : x ∈ p) : x.2.length < szP p := by
  obtain ⟨i, hi, rfl⟩ := List.getElem_of_mem hx
  have := szP_at hi
  rw [show p.getD i (0, []) = p[i] by simp [List.getD, List.getElem?_eq_getElem hi]] at this
  omega
theorem put_le {p : List (Int × List Int)} (h : ∀ x ∈ p, ∀ y ∈ x.2, -65536 ≤ y ∧ y ≤ 65536) (i : Nat) : (putP (p.take i)).length ≤ 22 * szP p := by
  have := putP_len (p := p.take i) fun x hx => h x (List.mem_of_mem_take hx)
  have := szP_take p i
  omega
theorem put_in24 {p : List (Int × List Int)} {i : Nat} (h : ∀ x ∈ p, ∀ y ∈ x.2, -65536 ≤ y ∧ y ≤ 65536) (hi : i < p.length) (k : Nat) :
    (putP (p.take i)).length + (litsW ((p.getD i (0, [])).2.take k)).length ≤ 22 * szP p := by
  have h1 := putP_len (p := p.take i) fun x hx => h x (List.mem_of_mem_take hx)
  have h2 := szP_at hi
  have hm : p.getD i (0, []) ∈ p := by rw [show p.getD i (0, []) = p[i] by simp [List.getD, List.getElem?_eq_getElem hi]]; exact List.getElem_mem _
  have h3 := litsW_len (l := (p.getD i (0, [])).2.take k) fun x hx => h _ hm x (List.mem_of_mem_take hx)
  have h4 : ((p.getD i (0, [])).2.take k).length ≤ (p.getD i (0, [])).2.length := by rw [List.length_take]; omega
  omega
theorem frm_lits {p : List (Int × List Int)} (h : frmV p = 0) : p.length ≤ 65536 ∧ (∀ x ∈ p, 1 ≤ x.1 ∧ x.1 ≤ 3) ∧ ∀ x ∈ p, ∀ y ∈ x.2, -65536 ≤ y ∧ y ≤ 65536 := by
  obtain ⟨h1, h2⟩ := frm_ok.1 h
  have h3 : ∀ x ∈ p, lineOk x = true := List.all_eq_true.1 h2
  refine ⟨h1, fun x hx => ?_, fun x hx y hy => ?_⟩
  · have := h3 x hx
    unfold lineOk at this
    simp only [Bool.and_eq_true, decide_eq_true_eq] at this
    exact this.1
  · have := h3 x hx
    unfold lineOk at this
    simp only [Bool.and_eq_true, List.all_eq_true] at this
    exact (mayP_iff.1 (this.2 y hy)).2
theorem put_frm {p : List (Int × List Int)} (h : szP p ≤ 1000000000) : p.length ≤ maxLen ∧ ∀ x ∈ p, x.2.length ≤ maxLen := by
  have := len_szP p
  exact ⟨by unfold maxLen; omega, fun x hx => by have := mem_szP hx; unfold maxLen; omega⟩
theorem let_in {k : Int} (h : 1 ≤ k ∧ k ≤ 3) : 0 ≤ k ∧ k < ((⟨#[32, 111, 108, 100]⟩ : ByteArray).size : Int) := by
  have : (⟨#[32, 111, 108, 100]⟩ : ByteArray).size = 4 := rfl
  rw [this]; omega
theorem getD_memI {l : List Int} {k : Nat} (h : k < l.length) : l.getD k 0 ∈ l := by
  rw [show l.getD k 0 = l[k] by simp [List.getD, List.getElem?_eq_getElem h]]; exact List.getElem_mem _
def putV (p : List (Int × List Int)) : List Int := if frmV p = 0 then putP p else []
theorem putV_yes {p : List (Int × List Int)} {i : Nat} (h : frmV p = 0) (hi : i = p.length) : putP (p.take i) = putV p := by unfold putV; rw [if_pos h, hi, List.take_length]
theorem putV_no {p : List (Int × List Int)} (h : ¬ frmV p = 0) : [] = putV p := by unfold putV; rw [if_neg h]
def getF : Nat → List Int → Option (List (Int × List Int))
  | _, [] => some []
  | 0, _ :: _ => none
  | n + 1, x :: r => if ((cutN (x :: r)).2.2 && lnOk (cutN (x :: r)).1) = true then (getF n (cutN (x :: r)).2.1).map ((lnK (cutN (x :: r)).1, lnL (cutN (x :: r)).1) :: ·) else none
theorem cut_cases (xs : List Int) : (cutN xs).2.2 = false ∨ ∃ a r, xs = a ++ 10 :: r ∧ (10 : Int) ∉ a ∧ cutN xs = (a, r, true) := by
  by_cases h : (10 : Int) ∈ xs
  · obtain ⟨a, r, h1, h2⟩ : ∃ a r, xs = a ++ 10 :: r ∧ (10 : Int) ∉ a := by
      induction xs with
      | nil => cases h
      | cons x xs ih =>
        by_cases hx : x = 10
        · exact ⟨[], xs, by rw [hx]; rfl, by simp⟩
        · obtain ⟨a, r, h1, h2⟩ := ih (by rcases List.mem_cons.1 h with h | h; exact absurd h.symm hx; exact h)
          exact ⟨x :: a, r, by rw [h1]; rfl, by simp only [List.mem_cons, not_or]; exact ⟨fun e => hx e.symm, h2⟩⟩
    exact .inr ⟨a, r, h1, h2, by rw [h1, cut_hit h2]⟩
  · exact .inl (by rw [cut_miss h])
theorem cut_lt {xs : List Int} (h : (cutN xs).2.2 = true) : (cutN xs).2.1.length < xs.length ∧ (cutN xs).1.length < xs.length ∧ ∀ x, (x ∈ (cutN xs).1 ∨ x ∈ (cutN xs).2.1) → x ∈ xs := by
  rcases cut_cases xs with h1 | ⟨a, r, h1, h2, h3⟩
  · rw [h1] at h; cases h
  · rw [h3, h1]
    refine ⟨by simp only [List.length_append, List.length_cons]; omega, by simp only [List.length_append, List.length_cons]; omega, fun x hx => ?_⟩
    simp only [List.mem_append, List.mem_cons]
    rcases hx with h | h
    · exact .inl h
    · exact .inr (.inr h)
theorem cut_le (xs : List Int) : (cutN xs).1.length ≤ xs.length ∧ (cutN xs).2.1.length ≤ xs.length ∧ ∀ x, (x ∈ (cutN xs).1 ∨ x ∈ (cutN xs).2.1) → x ∈ xs := by
  cases h : (cutN xs).2.2 with
  | true => have := cut_lt h; exact ⟨by omega, by omega, this.2.2⟩
  | false =>
    have : cutN xs = (xs, [], false) := by
      refine cut_miss fun hm => ?_
      unfold cutN at h
      rw [if_pos (by simpa using hm)] at h
      cases h
    rw [this]
    exact ⟨Nat.le_refl _, Nat.zero_le _, fun x hx => by rcases hx with h | h; exact h; cases h⟩
theorem getF_more : ∀ (n : Nat) (r : List Int), r.length ≤ n → getF n r = getF r.length r := by
  have key : ∀ (n m : Nat) (r : List Int), r.length ≤ n → r.length ≤ m → getF n r = getF m r := by
    intro n
    induction n with
    | zero => intro m r h _; have : r = [] := List.eq_nil_of_length_eq_zero (by omega); subst this; simp [getF]
    | succ n ih =>
      intro m r h1 h2
      cases r with
      | nil => simp [getF]
      | cons x r =>
        cases m with
        | zero => simp at h2
        | succ m =>
          unfold getF
          by_cases hc : ((cutN (x :: r)).2.2 && lnOk (cutN (x :: r)).1) = true
          · rw [if_pos hc, if_pos hc]
            simp only [Bool.and_eq_true] at hc
            have hl := (cut_lt hc.1).1
            simp only [List.length_cons] at h1 h2 hl
            rw [ih m _ (by omega) (by omega)]
          · rw [if_neg hc, if_neg hc]
  exact fun n r h => key n _ r h (Nat.le_refl _)
def getL (b : List Int) : Option (List (Int × List Int)) := getF b.length b
theorem getL_nil : getL [] = some [] := rfl
theorem getL_no {r : List Int} (h0 : 0 < r.length) (h : ((cutN r).2.2 && lnOk (cutN r).1) = false) : getL r = none := by
  cases r with
  | nil => simp at h0
  | cons x r => unfold getL; simp only [List.length_cons]; unfold getF; rw [if_neg (by rw [h]; simp)]
theorem getL_yes {r : List Int} (h0 : 0 < r.length) (h : ((cutN r).2.2 && lnOk (cutN r).1) = true) : getL r = (getL (cutN r).2.1).map ((lnK (cutN r).1, lnL (cutN r).1) :: ·) := by
  cases r with
  | nil => simp at h0
  | cons x r =>
    unfold getL; simp only [List.length_cons]; conv => lhs; unfold getF
    rw [if_pos h]
    simp only [Bool.and_eq_true] at h
    have hl := (cut_lt h.1).1
    simp only [List.length_cons] at hl
    rw [getF_more r.length _ (by omega)]
def getV24 (b : List Int) : List (Int × List Int) × Int := match getL b with
  | none => ([], 11)
  | some l => if 65536 < l.length then ([], 2) else (l, 0)
def getI (b : List Int) (out : List (Int × List Int)) (r : List Int) : Prop := getL b = (getL r).map (out ++ ·)
theorem getI_0 (b : List Int) : getI b [] b := by unfold getI; cases getL b <;> rfl
theorem getI_next {b r : List Int} {out : List (Int × List Int)} (hI : getI b out r) (h0 : 0 < r.length) (h : ((cutN r).2.2 && lnOk (cutN r).1) = true) : getI b (out ++ [(lnK (cutN r).1, lnL (cutN r).1)]) (cutN r).2.1 := by
  unfold getI at hI ⊢
  rw [hI, getL_yes h0 h]
  cases getL (cutN r).2.1 <;> simp
theorem getI_no {b r : List Int} {out : List (Int × List Int)} (hI : getI b out r) (h0 : 0 < r.length) (h : ((cutN r).2.2 && lnOk (cutN r).1) = false) : getV24 b = ([], 11) := by
  unfold getI at hI
  rw [getL_no h0 h] at hI
  unfold getV24; rw [hI]; rfl
theorem getI_end {b r : List Int} {out : List (Int × List Int)} (hI : getI b out r) (h0 : r.length = 0) : getV24 b = if 65536 < out.length then ([], 2) else (out, 0) := by
  have : r = [] := List.eq_nil_of_length_eq_zero h0
  subst this
  unfold getI at hI
  rw [getL_nil, Option.map_some, List.append_nil] at hI
  unfold getV24; rw [hI]
abbrev wsS (s : ByteArray) : List ByteArray := (splitI 32 (bytesI s)).map strOfNums
abbrev mdS (s : ByteArray) : List ByteArray := ((wsS s).take (((wsS s).length : Int) - 1).toNat).drop 1
theorem ws_facts (s : ByteArray) : 1 ≤ (wsS s).length ∧ (wsS s).length ≤ s.size + 1 ∧ ∀ x ∈ wsS s, x.size ≤ s.size := by
  obtain ⟨h1, h2⟩ := splitI_len 32 (bytesI s)
  rw [bytesI_len] at h1
  obtain ⟨w, ws, e⟩ := splitI_ne 32 (bytesI s)
  refine ⟨by rw [wsS, e]; simp, by rw [wsS, List.length_map]; exact h1, fun x hx => ?_⟩
  obtain ⟨v, hv, rfl⟩ := List.mem_map.1 hx
  have := h2 v hv
  rw [bytesI_len] at this
  rw [str_size]; exact this
theorem ws_at (s : ByteArray) (i : Nat) : (wsS s).getD i ByteArray.empty = strOfNums (wd (splitI 32 (bytesI s)) i) := by
  unfold wd wsS
  rw [List.getD_eq_getElem?_getD, List.getElem?_map, List.getD_eq_getElem?_getD]
  cases (splitI 32 (bytesI s))[i]? <;> rfl
theorem wd_bytes (s : ByteArray) (i : Nat) : isBytes (wd (splitI 32 (bytesI s)) i) := by
  unfold wd
  rw [List.getD_eq_getElem?_getD]
  cases h : (splitI 32 (bytesI s))[i]? with
  | none => intro x hx; cases hx
  | some w => exact fun x hx => bytes_is s x (splitI_mem (List.mem_of_getElem? h) x hx)
theorem lnK_is (s : ByteArray) : Lib.index (⟨#[32, 111, 108, 100]⟩ : ByteArray).data.toList ((wsS s).getD 0 ByteArray.empty).data.toList = lnK (bytesI s) := by
  unfold lnK kinI; rw [ws_at]
theorem mid_eq (s : ByteArray) : mdS s = (midW (splitI 32 (bytesI s))).map strOfNums := by
  unfold midW
  rw [List.map_drop, List.map_take]
  show ((wsS s).take _).drop 1 = ((wsS s).take _).drop 1
  have h := (ws_facts s).1
  have e : (((wsS s).length : Int) - 1).toNat = (wsS s).length - 1 := by omega
  rw [e, show (wsS s).length = (splitI 32 (bytesI s)).length from List.length_map ..]
theorem mid_len (s : ByteArray) : (mdS s).length = (midW (splitI 32 (bytesI s))).length := by rw [mid_eq, List.length_map]
theorem mid_at (s : ByteArray) (i : Nat) : (mdS s).getD i ByteArray.empty = strOfNums ((midW (splitI 32 (bytesI s))).getD i []) := by
  rw [mid_eq, List.getD_eq_getElem?_getD, List.getElem?_map, List.getD_eq_getElem?_getD]
  cases (midW (splitI 32 (bytesI s)))[i]? <;> rfl
theorem mid_bytes {s : ByteArray} {i : Nat} : isBytes ((midW (splitI 32 (bytesI s))).getD i []) := by
  rw [List.getD_eq_getElem?_getD]
  cases h : (midW (splitI 32 (bytesI s)))[i]? with
  | none => intro x hx; cases hx
  | some w => exact fun x hx => bytes_is s x (splitI_mem (List.mem_of_mem_take (List.mem_of_mem_drop (List.mem_of_getElem? h))) x hx)
theorem mid_size {s : ByteArray} {i : Nat} (hi : i < (mdS s).length) : ((mdS s).getD i ByteArray.empty).size ≤ s.size := by
  refine (ws_facts s).2.2 _ ?_
  have : (mdS s).getD i ByteArray.empty ∈ mdS s := getD_memS hi
  exact List.mem_of_mem_take (List.mem_of_mem_drop this)
theorem mid_lenS (s : ByteArray) : (mdS s).length ≤ s.size := by
  have := (ws_facts s).2.1
  unfold mdS
  rw [List.length_drop, List.length_take]; omega
theorem head_is (s : ByteArray) : (((((((wsS s).getD 0 ByteArray.empty).size : Int) != 1) || (decide ((Lib.index (⟨#[32, 111, 108, 100]⟩ : ByteArray).data.toList ((wsS s).getD 0 ByteArray.empty).data.toList) < 1))) || (decide (((wsS s).length : Int) - 1 < 1))) || (!(((wsS s).getD (((wsS s).length : Int) - 1).toNat ByteArray.empty).toList == (⟨#[48]⟩ : ByteArray).toList))) = !headW (splitI 32 (bytesI s)) := by
  rw [lnK_is, ws_at, ws_at]
  have e48 : (⟨#[48]⟩ : ByteArray) = strOfNums [48] := by decide
  have hb : isBytes [48] := fun x hx => by rw [List.mem_singleton] at hx; omega
  have h := (ws_facts s).1
  have el : (wsS s).length = (splitI 32 (bytesI s)).length := List.length_map ..
  have e1 : (((wsS s).length : Int) - 1).toNat = (splitI 32 (bytesI s)).length - 1 := by omega
  rw [e48, str_inj (wd_bytes s _) hb, e1, str_size, el]
  unfold headW lnK
  have k1 : (((wd (splitI 32 (bytesI s)) 0).length : Int) != 1) = !decide ((wd (splitI 32 (bytesI s)) 0).length = 1) := by
    rw [Bool.eq_iff_iff, bne_iff_ne, Bool.not_eq_true', decide_eq_false_iff_not]; omega
  have k2 : decide (kinI (wd (splitI 32 (bytesI s)) 0) < 1) = !decide (1 ≤ kinI (wd (splitI 32 (bytesI s)) 0)) := by
    rw [Bool.eq_iff_iff, Bool.not_eq_true', decide_eq_false_iff_not, decide_eq_true_eq]; omega
  have k3 : decide (((splitI 32 (bytesI s)).length : Int) - 1 < 1) = !decide (2 ≤ (splitI 32 (bytesI s)).length) := by
    rw [Bool.eq_iff_iff, Bool.not_eq_true', decide_eq_false_iff_not, decide_eq_true_eq]; omega
  rw [k1, k2, k3]
  simp only [Bool.not_and, Bool.or_assoc]
theorem headS_no {s : ByteArray} {b : Bool} (hb : b = !headW (splitI 32 (bytesI s))) (h : b = true) : headW (splitI 32 (bytesI s)) = false := by
  rw [h] at hb; simpa using hb.symm
theorem headS_yes {s : ByteArray} {b : Bool} (hb : b = !headW (splitI 32 (bytesI s))) (h : b = false) : headW (splitI 32 (bytesI s)) = true := by
  rw [h] at hb; simpa using hb.symm
theorem lit_no {s : ByteArray} {i : Nat} (h : badLit ((mdS s).getD i ByteArray.empty) = true) : litW ((midW (splitI 32 (bytesI s))).getD i []) = false := by
  rw [mid_at, (bad_lit _ mid_bytes).1] at h; simpa using h
theorem lit_yes {s : ByteArray} {i : Nat} (h : badLit ((mdS s).getD i ByteArray.empty) = false) : litW ((midW (splitI 32 (bytesI s))).getD i []) = true ∧ (atoiV ((mdS s).getD i ByteArray.empty).data.toList).1 = numN ((midW (splitI 32 (bytesI s))).getD i []) := by
  rw [mid_at] at h ⊢
  have e := bad_lit ((midW (splitI 32 (bytesI s))).getD i []) mid_bytes
  rw [e.1] at h
  have h' : litW ((midW (splitI 32 (bytesI s))).getD i []) = true := by simpa using h
  exact ⟨h', e.2 h'⟩
theorem mid_next {s : ByteArray} {i : Nat} (hi : i < (mdS s).length) (h : (atoiV ((mdS s).getD i ByteArray.empty).data.toList).1 = numN ((midW (splitI 32 (bytesI s))).getD i [])) :
    ((midW (splitI 32 (bytesI s))).take i).map numN ++ [(atoiV ((mdS s).getD i ByteArray.empty).data.toList).1] = ((midW (splitI 32 (bytesI s))).take (i + 1)).map numN := by
  rw [h]
  rw [mid_len] at hi
  rw [List.take_add_one, List.map_append]
  simp [List.getD, List.getElem?_eq_getElem hi]
theorem ln_head {s : ByteArray} (h : headW (splitI 32 (bytesI s)) = false) : [] = lnL (bytesI s) := by unfold lnL; rw [h]; rfl
theorem lnOk_head {s : ByteArray} (h : headW (splitI 32 (bytesI s)) = false) : false = lnOk (bytesI s) := by unfold lnOk; rw [h]; rfl
theorem tw_stop {l : List (List Int)} {i : Nat} (hi : i < l.length) (hok : ∀ j, j < i → litW (l.getD j []) = true) (hq : litW (l.getD i []) = false) : l.takeWhile litW = l.take i ∧ l.all litW = false := by
  have hg : ∀ j, (h : j < l.length) → l.getD j [] = l[j] := fun j h => by simp [List.getD, List.getElem?_eq_getElem h]
  have e : l = l.take i ++ l[i] :: l.drop (i + 1) := by rw [← List.drop_eq_getElem_cons hi, List.take_append_drop]
  have h1 : ∀ x ∈ l.take i, litW x = true := fun x hx => by
    obtain ⟨j, hj, rfl⟩ := List.getElem_of_mem hx
    rw [List.length_take] at hj
    have := hok j (by omega)
    rw [hg j (by omega)] at this
    rw [List.getElem_take]; exact this
  rw [hg i hi] at hq
  refine ⟨?_, ?_⟩
  · conv => lhs; rw [e, List.takeWhile_append_of_pos h1, List.takeWhile_cons]
    rw [hq]; simp
  · rw [List.all_eq_false]
    exact ⟨l[i], List.getElem_mem _, by rw [hq]; simp⟩
theorem tw_all {l : List (List Int)} {i : Nat} (hi : i = l.length) (hok : ∀ j, j < i → litW (l.getD j []) = true) : l.takeWhile litW = l.take i ∧ l.all litW = true := by
  have h1 : ∀ x ∈ l, litW x = true := fun x hx => by
    obtain ⟨j, hj, rfl⟩ := List.getElem_of_mem hx
    have := hok j (by omega)
    rwa [show l.getD j [] = l[j] by simp [List.getD, List.getElem?_eq_getElem hj]] at this
  refine ⟨?_, List.all_eq_true.2 h1⟩
  rw [hi, List.take_length]
  have := List.takeWhile_append_of_pos (l₂ := []) h1
  simpa using this
theorem ln_stop {s : ByteArray} {i : Nat} (hH : headW (splitI 32 (bytesI s)) = true) (hi : i < (mdS s).length) (hok : ∀ j, j < i → litW ((midW (splitI 32 (bytesI s))).getD j []) = true) (hq : litW ((midW (splitI 32 (bytesI s))).getD i []) = false) :
    ((midW (splitI 32 (bytesI s))).take i).map numN = lnL (bytesI s) := by
  unfold lnL; rw [if_pos hH, (tw_stop (by rw [← mid_len]; exact hi) hok hq).1]
theorem lnOk_stop {s : ByteArray} {i : Nat} (hi : i < (mdS s).length) (hok : ∀ j, j < i → litW ((midW (splitI 32 (bytesI s))).getD j []) = true) (hq : litW ((midW (splitI 32 (bytesI s))).getD i []) = false) : false = lnOk (bytesI s) := by
  unfold lnOk; rw [(tw_stop (by rw [← mid_len]; exact hi) hok hq).2, Bool.and_false]
theorem ln_all {s : ByteArray} {i : Nat} (hH : headW (splitI 32 (bytesI s)) = true) (hi : i = (mdS s).length) (hok : ∀ j, j < i → litW ((midW (splitI 32 (bytesI s))).getD j []) = true) :
    ((midW (splitI 32 (bytesI s))).take i).map numN = lnL (bytesI s) := by
  unfold lnL; rw [if_pos hH, (tw_all (by rw [← mid_len]; exact hi) hok).1]
theorem lnOk_all {s : ByteArray} {i : Nat} (hH : headW (splitI 32 (bytesI s)) = true) (hi : i = (mdS s).length) (hok : ∀ j, j < i → litW ((midW (splitI 32 (bytesI s))).getD j []) = true) : true = lnOk (bytesI s) := by
  unfold lnOk; rw [hH, (tw_all (by rw [← mid_len]; exact hi) hok).2]; rfl
theorem fit_may {a : Bool} {x : Int} (h : (!(a || !mayP x 65536)) = true) : Fit x := by
  simp only [Bool.not_eq_true', Bool.or_eq_false_iff, Bool.not_eq_false'] at h
  have := mayP_iff.1 h.2
  exact ⟨by omega, by omega⟩
theorem headS_two {s : ByteArray} (h : headW (splitI 32 (bytesI s)) = true) : 2 ≤ (wsS s).length := by
  unfold headW at h
  simp only [Bool.and_eq_true, decide_eq_true_eq] at h
  rw [show (wsS s).length = (splitI 32 (bytesI s)).length from List.length_map ..]
  exact h.2.2.1
theorem md_take {s : ByteArray} {i : Nat} (hi : i ≤ (mdS s).length) : (((midW (splitI 32 (bytesI s))).take i).map numN).length = i := by
  rw [mid_len] at hi
  rw [List.length_map, List.length_take]; omega
theorem cut_bytes {xs : List Int} (h : isBytes xs) : isBytes (cutN xs).1 ∧ isBytes (cutN xs).2.1 := by
  obtain ⟨_, _, h3⟩ := cut_le xs
  exact ⟨fun x hx => h x (h3 x (.inl hx)), fun x hx => h x (h3 x (.inr hx))⟩
theorem cg_no {a b : Bool} (h : (!a || !b) = true) : (a && b) = false := by cases a <;> cases b <;> simp_all
theorem cg_yes {a b : Bool} (h : (!a || !b) = false) : (a && b) = true := by cases a <;> cases b <;> simp_all
theorem cg_1 {a b : Bool} (h : (a && b) = true) : a = true := by cases a <;> simp_all
end Go.Proofs.YtbpbndlgfiammaaGreatDoor.Cn
