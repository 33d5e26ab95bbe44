/- basicauth.ParseHeader and FormatHeader; the reference's ParseBasic and FormatBasic. -/
import Derived.Test.YtlgeohjcjhhmhaaDoorLower
import Derived.Test.YtlgeohjcjhhmhaaDoorDecP
import Derived.Test.YtlgeohjcjhhmhaaDoorDecR
namespace Go.Proofs.YtlgeohjcjhhmhaaDoor
open Go.RowKit

def basicL : List Int := [98, 97, 115, 105, 99]
def basS : ByteArray := ⟨#[98, 97, 115, 105, 99]⟩
def BasS : ByteArray := ⟨#[66, 97, 115, 105, 99]⟩
theorem nums_bas : numsOf basS = basicL := by decide +kernel
theorem low_Bas : lowS BasS = basS := by
  unfold lowS
  rw [show (numsOf BasS).map lw = numsOf basS by decide +kernel, strOf_nums]
/-- The header of a credential: five letters, one blank. -/
def hdrB (s : ByteArray) : Bool := decide (6 ≤ s.size) && decide (((numsOf s).take 5).map lw = basicL) && decide (byt s 5 = 32)
/-- The two parts of a text, before and after the first colon. -/
def colon (d : ByteArray) : Option (ByteArray × ByteArray) := if fnd d 58 = -1 then none else some (d.extract 0 (fnd d 58).toNat, d.extract ((fnd d 58).toNat + 1) d.size)
noncomputable def parseH (s : ByteArray) : Option (ByteArray × ByteArray) := if hdrB s then (decOf (s.extract 6 s.size)).bind colon else none
def pairV (o : Option (ByteArray × ByteArray)) : Value := .tuple #[.string ((o.map (·.1)).getD ByteArray.empty), .string ((o.map (·.2)).getD ByteArray.empty), .bool o.isSome]

theorem nums_take (s : ByteArray) (m : Nat) : numsOf (s.extract 0 m) = (numsOf s).take m := by
  unfold numsOf
  rw [ByteArray.data_extract, Array.toList_extract, List.extract_eq_take_drop, List.drop_zero, List.map_take]
  rfl
theorem nums_extract (s : ByteArray) (i j : Nat) : numsOf (s.extract i j) = ((numsOf s).drop i).take (j - i) := by
  unfold numsOf
  rw [ByteArray.data_extract, Array.toList_extract, List.extract_eq_take_drop, List.map_take, List.map_drop]
theorem byt_low (s : ByteArray) (h : ((numsOf s).take 5).map lw = basicL) (j : Nat) (hj : j < 5) : byt s j ≠ 32 := by
  intro e
  have hl : ((numsOf s).take 5).length = 5 := by have := congrArg List.length h; rw [List.length_map] at this; exact this
  have hs : 5 ≤ s.size := by rw [List.length_take, numsOf_length] at hl; omega
  have h1 : (((numsOf s).take 5).map lw)[j]? = some (lw (byt s j)) := by
    rw [List.getElem?_map, List.getElem?_take_of_lt hj, byt_at (by omega)]
    simp [at_, List.getD, List.getElem?_eq_getElem (show j < (numsOf s).length by rw [numsOf_length]; omega)]
  rw [h, e] at h1
  revert h1
  match j, hj with
  | 0, _ => decide
  | 1, _ => decide
  | 2, _ => decide
  | 3, _ => decide
  | 4, _ => decide
/-- What the first blank says of the header. -/
theorem hdr_none {s : ByteArray} (h : ∀ j : Nat, j < s.size → byt s j ≠ 32) : hdrB s = false := by
  rw [Bool.eq_false_iff]
  intro e
  simp only [hdrB, Bool.and_eq_true, decide_eq_true_eq] at e
  exact h 5 (by omega) e.2
theorem hdr_some {s : ByteArray} {m : Nat} (hm : m < s.size) (h1 : byt s m = 32) (h2 : ∀ j : Nat, j < m → byt s j ≠ 32) : (hdrB s = true → m = 5) ∧ (lowS (s.extract 0 m) = basS ↔ hdrB s = true) := by
  have key : hdrB s = true → m = 5 := by
    intro e
    simp only [hdrB, Bool.and_eq_true, decide_eq_true_eq] at e
    obtain ⟨⟨e1, e2⟩, e3⟩ := e
    rcases Nat.lt_trichotomy m 5 with h | h | h
    · exact absurd h1 (byt_low s e2 m h)
    · exact h
    · exact absurd e3 (h2 5 h)
  refine ⟨key, fun e => ?_, fun e => ?_⟩
  · have e1 := congrArg numsOf e
    rw [nums_low, nums_take, nums_bas] at e1
    have hl := congrArg List.length e1
    rw [List.length_map, List.length_take, numsOf_length] at hl
    have hb : basicL.length = 5 := rfl
    obtain rfl : m = 5 := by omega
    simp only [hdrB, Bool.and_eq_true, decide_eq_true_eq]
    exact ⟨⟨by omega, e1⟩, h1⟩
  · obtain rfl := key e
    simp only [hdrB, Bool.and_eq_true, decide_eq_true_eq] at e
    unfold lowS
    rw [nums_take, e.1.2, ← nums_bas, strOf_nums]

theorem str_beq {s t : ByteArray} : (s.toList == t.toList) = decide (s = t) := by
  have : s.toList = t.toList ↔ s = t := by
    constructor
    · intro h; rw [ByteArray.toList_eq, ByteArray.toList_eq] at h; exact str_ext h
    · rintro rfl; rfl
  by_cases h : s = t
  · subst h; simp
  · rw [decide_eq_false h]; simpa using fun e => h (this.1 e)
end Go.Proofs.YtlgeohjcjhhmhaaDoor
