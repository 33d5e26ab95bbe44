/- The policy table: the plain laws. -/
import Derived.Test.YtjabeabbaambcaaDoorBlkP
namespace Go.Proofs.YtjabeabbaambcaaDoor
open Go.RowKit

abbrev PRow := Pfx × Int × Int
/-- The row that a step of the search keeps. -/
def polS (a : List Int) (best r : PRow) : PRow := if decide (best.1.2.2 < r.1.2.2) && contP r.1 true a then r else best
def map6 (six : Bool) (a : List Int) : List Int := if six then a else mapA (at_ a 0) (at_ a 1) (at_ a 2) (at_ a 3)
def row0 : PRow := ((false, [0, 0, 0, 0, 0, 0, 0, 0, 0, 0, 0, 0, 0, 0, 0, 0], -1), -1, -1)
def row1 : PRow := (pf6 [] 0, 40, 1)
def lookP (six : Bool) (a : List Int) : PRow := if validA six a then polT.foldl (polS (map6 six a)) row0 else row0
def lookR (six : Bool) (a : List Int) : PRow := polT.foldl (polS (map6 six a)) row1
theorem cont_all {a : List Int} (hl : a.length = 16) (hb : ∀ x ∈ a, 0 ≤ x ∧ x ≤ 255) : contP (pf6 [] 0) true a = true := by
  rw [cont_six (by decide) rfl rfl, decide_eq_true_eq]
  refine at_ext (by rw [trunc_len, hl]; rfl) fun i hi => ?_
  rw [trunc_len] at hi
  rw [trunc_at _ _ _ hi]
  have h1 : Byt (at_ a i) := hb _ (by simp [at_, List.getD, hi])
  show cutB (at_ a i) (keepB 0 i) = _
  rw [show keepB 0 i = 0 by unfold keepB; omega, cut0 h1]
  have hall : ∀ i : Fin 16, at_ (pf6 [] 0).2.1 i.val = 0 := by decide
  exact (hall ⟨i, by omega⟩).symm
theorem fold_same {a : List Int} (hl : a.length = 16) (hb : ∀ x ∈ a, 0 ≤ x ∧ x ≤ 255) : polT.foldl (polS a) row0 = polT.foldl (polS a) row1 := by
  have e : polT = (pf6 [0, 0, 0, 0, 0, 0, 0, 1] 128, 50, 0) :: (pf6 [] 0, 40, 1) :: polT.drop 2 := rfl
  rw [e, List.foldl_cons, List.foldl_cons, List.foldl_cons, List.foldl_cons]
  congr 1
  have h1 := cont_all hl hb
  unfold polS
  cases h : contP (pf6 [0, 0, 0, 0, 0, 0, 0, 1] 128) true a with
  | true => rfl
  | false =>
    simp only [h1, Bool.and_false, Bool.and_true, Bool.false_eq_true, if_false]
    rfl
theorem fold_mem (a : List Int) (l : List PRow) (b : PRow) : l.foldl (polS a) b = b ∨ l.foldl (polS a) b ∈ l := by
  induction l generalizing b with
  | nil => exact .inl rfl
  | cons r l ih =>
    rw [List.foldl_cons]
    rcases ih (polS a b r) with h | h
    · rw [h]
      unfold polS
      split
      · exact .inr (List.mem_cons_self)
      · exact .inl rfl
    · exact .inr (List.mem_cons_of_mem _ h)
theorem look_mem (six : Bool) (a : List Int) : lookR six a ∈ polT := by
  rcases fold_mem (map6 six a) polT row1 with h | h
  · unfold lookR; rw [h]; decide
  · exact h
theorem pol_pos : ∀ r ∈ polT, 0 ≤ r.2.1 ∧ 0 ≤ r.2.2 := by decide
theorem pol_len : polT.length = 9 := rfl
theorem pol_good : ∀ r ∈ polT, r.1.1 = true ∧ r.1.2.1.length = 16 ∧ ∀ x ∈ r.1.2.1, 0 ≤ x ∧ x ≤ 255 := by decide +kernel
theorem pol_valid : ∀ r ∈ polT, validP r.1 = true := by decide +kernel
theorem map6_good {six : Bool} {a : List Int} (hl : a.length = 16) (hb : ∀ x ∈ a, 0 ≤ x ∧ x ≤ 255) : (map6 six a).length = 16 ∧ ∀ x ∈ map6 six a, 0 ≤ x ∧ x ≤ 255 := by
  cases six
  · refine ⟨rfl, fun x hx => ?_⟩
    have h (i : Nat) (hi : i < 16) : 0 ≤ at_ a i ∧ at_ a i ≤ 255 := hb _ (by simp [at_, List.getD, show i < a.length by omega])
    simp only [map6, mapA, Bool.false_eq_true, if_false, List.mem_cons, List.not_mem_nil, or_false] at hx
    have h0 := h 0 (by omega)
    have h1 := h 1 (by omega)
    have h2 := h 2 (by omega)
    have h3 := h 3 (by omega)
    rcases hx with rfl | rfl | rfl | rfl | rfl | rfl | rfl | rfl | rfl | rfl | rfl | rfl | rfl | rfl | rfl | rfl <;> omega
  · exact ⟨hl, hb⟩
theorem look_same {six : Bool} {a : List Int} (hl : a.length = 16) (hb : ∀ x ∈ a, 0 ≤ x ∧ x ≤ 255) : lookP six a = if validA six a then lookR six a else row0 := by
  unfold lookP lookR
  obtain ⟨h1, h2⟩ := map6_good (six := six) hl hb
  rw [fold_same h1 h2]
theorem look_mapped {a b c d : Int} (ha : Byt a) (hb : Byt b) (hc : Byt c) (hd : Byt d) : polT.foldl (polS (mapA a b c d)) row1 = (pf6 [0, 0, 0, 0, 0, 65535] 96, 35, 4) := by
  have e0 : contP (pf6 [0, 0, 0, 0, 0, 0, 0, 1] 128) true (mapA a b c d) = false := cont_not 10 (show 10 < 16 by omega) (by show cutB 255 8 ≠ 0; decide)
  have e2 : contP (pf6 [0, 0, 0, 0, 0, 65535] 96) true (mapA a b c d) = true := by
    rw [cont_six (by decide) rfl rfl, decide_eq_true_eq]
    exact trunc_mapA96 ha hb hc hd
  have s0 : polS (mapA a b c d) row1 (pf6 [0, 0, 0, 0, 0, 0, 0, 1] 128, 50, 0) = row1 := by unfold polS; rw [e0, Bool.and_false]; rfl
  have s1 : polS (mapA a b c d) row1 (pf6 [] 0, 40, 1) = row1 := by unfold polS; rw [show decide (row1.1.2.2 < (pf6 [] 0).2.2) = false from rfl, Bool.false_and]; rfl
  have s2 : polS (mapA a b c d) row1 (pf6 [0, 0, 0, 0, 0, 65535] 96, 35, 4) = (pf6 [0, 0, 0, 0, 0, 65535] 96, 35, 4) := by unfold polS; rw [e2]; rfl
  have s3 (r : PRow) (h : decide (96 < r.1.2.2) = false) : polS (mapA a b c d) (pf6 [0, 0, 0, 0, 0, 65535] 96, 35, 4) r = (pf6 [0, 0, 0, 0, 0, 65535] 96, 35, 4) := by
    unfold polS
    rw [show decide ((pf6 [0, 0, 0, 0, 0, 65535] 96, (35 : Int), (4 : Int)).1.2.2 < r.1.2.2) = false from h, Bool.false_and]; rfl
  unfold polT
  simp only [List.foldl_cons, List.foldl_nil]
  rw [s0, s1, s2, s3 _ rfl, s3 _ rfl, s3 _ rfl, s3 _ rfl, s3 _ rfl, s3 _ rfl]

/-- The scope of an address. -/
def scopeP (six : Bool) (a : List Int) : Int :=
  if validA six a then
    if six then
      if at_ a 0 = 255 then bits .and .u8 (at_ a 1) 15
      else if a = [0, 0, 0, 0, 0, 0, 0, 0, 0, 0, 0, 0, 0, 0, 0, 1] then 2
      else if at_ a 0 = 254 ∧ cutB (at_ a 1) 2 = 128 then 2
      else if at_ a 0 = 254 ∧ cutB (at_ a 1) 2 = 192 then 5
      else 14
    else if at_ a 0 = 127 then 2 else if at_ a 0 = 169 ∧ at_ a 1 = 254 then 2 else 14
  else -1
theorem and15 (b : Int) (h : Byt b) : 0 ≤ bits .and .u8 b 15 ∧ bits .and .u8 b 15 ≤ 15 := by
  have hall : ∀ b : Fin 256, 0 ≤ bits .and .u8 (b.val : Int) 15 ∧ bits .and .u8 (b.val : Int) 15 ≤ 15 := by decide +kernel
  obtain ⟨n, rfl⟩ := Int.eq_ofNat_of_zero_le h.1
  exact hall ⟨n, by have := h.2; omega⟩
theorem scope_pos {six : Bool} {a : List Int} (hl : a.length = 16) (hb : ∀ x ∈ a, 0 ≤ x ∧ x ≤ 255) : decide (0 ≤ scopeP six a) = validA six a := by
  have h1 : Byt (at_ a 1) := hb _ (by simp [at_, List.getD, show 1 < a.length by omega])
  have := (and15 _ h1).1
  unfold scopeP
  cases hv : validA six a with
  | false => rfl
  | true =>
    rw [if_pos rfl, decide_eq_true_eq]
    (repeat' split) <;> omega
/-- The prefix that the scope's tests ask for: its first bytes, the others zero. -/
def hasX (six : Bool) (b0 b1 n : Int) : Pfx := (six, [b0, b1, 0, 0, 0, 0, 0, 0, 0, 0, 0, 0, 0, 0, 0, 0], n)
theorem has_eq {six : Bool} {a : List Int} (hl : a.length = 16) (hb : ∀ x ∈ a, 0 ≤ x ∧ x ≤ 255) (ha : validA six a = true) (b0 b1 n : Int) (hn : n ≤ 16) (hv : validP (hasX six b0 b1 n) = true) :
    contP (hasX six b0 b1 n) six a = (decide (cutB (at_ a 0) (keepB n 0) = b0) && decide (cutB (at_ a 1) (keepB n 1) = b1)) := by
  rw [cont_six hv ha (by simp [hasX]), ← Bool.decide_and]
  apply decide_eq_decide.2
  show truncL a n = [b0, b1, 0, 0, 0, 0, 0, 0, 0, 0, 0, 0, 0, 0, 0, 0] ↔ _
  have h (i : Nat) (hi : i < 16) : Byt (at_ a i) := hb _ (by simp [at_, List.getD, show i < a.length by omega])
  constructor
  · intro e
    rw [← trunc_at _ _ _ (by omega), ← trunc_at _ _ _ (by omega), e]
    exact ⟨rfl, rfl⟩
  · rintro ⟨e0, e1⟩
    refine at_ext (by rw [trunc_len, hl]; rfl) fun i hi => ?_
    rw [trunc_len, hl] at hi
    rw [trunc_at _ _ _ (by omega)]
    by_cases hi2 : 2 ≤ i
    · rw [show keepB n i = 0 by unfold keepB; omega, cut0 (h i hi)]
      obtain ⟨j, rfl⟩ : ∃ j, i = j + 2 := ⟨i - 2, by omega⟩
      have hall : ∀ j : Fin 14, at_ [0, 0, 0, 0, 0, 0, 0, 0, 0, 0, 0, 0, 0, 0] j.val = 0 := by decide
      exact (hall ⟨j, by omega⟩).symm
    · rcases (show i = 0 ∨ i = 1 by omega) with rfl | rfl
      · exact e0
      · exact e1
end Go.Proofs.YtjabeabbaambcaaDoor
