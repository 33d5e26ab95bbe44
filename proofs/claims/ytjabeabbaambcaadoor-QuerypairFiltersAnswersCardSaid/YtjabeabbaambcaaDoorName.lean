/- Host names: the plain layer. -/
import Derived.Test.YtjabeabbaambcaaDoorNums
import Derived.Lib.Split
import Derived.Lib.SplitLaws
import Derived.Lib.IndexLaws
import Derived.Lib.IndexBytes
import Derived.Lib.SlTrimSet
import Derived.Lib.Strings
namespace Go.Proofs.YtjabeabbaambcaaDoor
open Go.RowKit

/-- The pieces between the dots. -/
def splitD : List Int → List (List Int)
  | [] => [[]]
  | c :: l => if c = 46 then [] :: splitD l else
    match splitD l with
    | x :: r => (c :: x) :: r
    | [] => [[c]]
theorem splitD_ne : ∀ l : List Int, splitD l ≠ []
  | [] => by simp [splitD]
  | c :: l => by
    unfold splitD
    split
    · simp
    · split <;> simp
theorem splitD_free : ∀ l : List Int, (∀ x ∈ l, x ≠ 46) → splitD l = [l]
  | [], _ => rfl
  | c :: l, h => by
    unfold splitD
    rw [if_neg (h c (by simp)), splitD_free l (fun x hx => h x (by simp [hx]))]
theorem splitD_cut : ∀ a b : List Int, (∀ x ∈ a, x ≠ 46) → splitD (a ++ 46 :: b) = a :: splitD b
  | [], b, _ => by rw [List.nil_append, splitD, if_pos rfl]
  | c :: a, b, h => by
    rw [List.cons_append, splitD, if_neg (h c (by simp)), splitD_cut a b (fun x hx => h x (by simp [hx]))]

def dotS : ByteArray := ⟨#[46]⟩
theorem nums_get (s : ByteArray) (i : Nat) : (numsOf s)[i]? = (s.data.toList[i]?).map (fun b => (b.toNat : Int)) := by
  unfold numsOf; rw [List.getElem?_map]
theorem u8_46 (b : UInt8) : b = 46 ↔ (b.toNat : Int) = 46 := by
  constructor
  · rintro rfl; rfl
  · intro h
    apply UInt8.toNat_inj.1
    show b.toNat = 46
    omega
theorem split_same : ∀ (k : Nat) (s : ByteArray), Lib.countB s dotS = k → (Lib.splitB dotS 0 k s).map numsOf = splitD (numsOf s) := by
  intro k
  induction k with
  | zero =>
    intro s hk
    rcases Lib.indexB_cases s dotS with h | ⟨i, h, hi⟩
    · rw [Lib.splitB_miss _ _ _ _ h, List.map_cons, List.map_nil, splitD_free]
      intro x hx hx46
      have h1 : Lib.indexByte s.data.toList 46 = -1 := by rw [← Lib.index_one]; exact h
      obtain ⟨j, hj⟩ := List.mem_iff_getElem?.1 hx
      rw [nums_get] at hj
      cases hb : s.data.toList[j]? with
      | none => rw [hb] at hj; cases hj
      | some b =>
        rw [hb] at hj
        have hb2 : (b.toNat : Int) = x := by simpa using hj
        exact Lib.indexByte_none h1 j (by rw [hb, (u8_46 b).2 (by omega)])
    · have := Lib.countB_hit s dotS i (by decide) h
      omega
  | succ k ih =>
    intro s hk
    rcases Lib.indexB_cases s dotS with h | ⟨i, h, hi⟩
    · have := Lib.countB_miss s dotS h
      omega
    · have hc := Lib.countB_hit s dotS i (by decide) h
      have hi1 : i + 1 ≤ s.size := hi
      have hc1 : Lib.countB (s.extract (i + 1) s.size) dotS = k := by
        have : (dotS).size = 1 := rfl
        rw [this] at hc
        omega
      rw [Lib.splitB_hit _ _ _ _ i h, List.map_cons]
      show numsOf (s.extract 0 (i + 0)) :: List.map numsOf (Lib.splitB dotS 0 k (s.extract (i + 1) s.size)) = _
      rw [ih _ hc1, Nat.add_zero, nums_ext, nums_tail]
      simp only [List.drop_zero, Nat.sub_zero]
      have h1 : Lib.indexByte s.data.toList 46 = i := by rw [← Lib.index_one]; exact h
      obtain ⟨g1, g2⟩ := Lib.indexByte_some h1
      have hget : (numsOf s)[i]? = some 46 := by rw [nums_get, g1]; rfl
      have hlt : i < (numsOf s).length := by rw [numsOf_length]; omega
      have hsp : numsOf s = (numsOf s).take i ++ 46 :: (numsOf s).drop (i + 1) := by
        conv => lhs; rw [← List.take_append_drop i (numsOf s), List.drop_eq_getElem_cons hlt]
        rw [List.getElem?_eq_getElem hlt] at hget
        rw [Option.some.inj hget]
      conv => rhs; rw [hsp]
      rw [splitD_cut]
      intro x hx hx46
      obtain ⟨j, hj⟩ := List.mem_iff_getElem?.1 hx
      rw [List.getElem?_take] at hj
      split at hj
      · rename_i hji
        rw [nums_get] at hj
        cases hb : s.data.toList[j]? with
        | none => rw [hb] at hj; cases hj
        | some b =>
          rw [hb] at hj
          have hb2 : (b.toNat : Int) = x := by simpa using hj
          exact g2 j hji (by rw [hb, (u8_46 b).2 (by omega)])
      · cases hj

def chrOk (c : Int) : Bool := decide (97 ≤ c ∧ c ≤ 122) || decide (48 ≤ c ∧ c ≤ 57) || decide (c = 45)
def digOk (c : Int) : Bool := decide (48 ≤ c ∧ c ≤ 57)
def labOk (l : List Int) : Bool := decide (1 ≤ l.length ∧ l.length ≤ 63) && !decide (at_ l 0 = 45) && !decide (at_ l (l.length - 1) = 45) && l.all chrOk
def namOk (l : List Int) : Bool := decide (l.length ≤ 253) && (splitD l).all labOk && !((splitD l).getLastD []).all digOk

def labC : ByteArray := ⟨#[97, 98, 99, 100, 101, 102, 103, 104, 105, 106, 107, 108, 109, 110, 111, 112, 113, 114, 115, 116, 117, 118, 119, 120, 121, 122, 48, 49, 50, 51, 52, 53, 54, 55, 56, 57, 45]⟩
def digC : ByteArray := ⟨#[48, 49, 50, 51, 52, 53, 54, 55, 56, 57]⟩
theorem labC_has : ∀ n : Fin 256, labC.data.toList.contains (UInt8.ofNat n.val) = chrOk n.val := by decide +kernel
theorem digC_has : ∀ n : Fin 256, digC.data.toList.contains (UInt8.ofNat n.val) = digOk n.val := by decide +kernel
theorem dw_nil {α : Type} (p : α → Bool) : ∀ l : List α, l.dropWhile p = [] ↔ ∀ x ∈ l, p x = true
  | [] => by simp
  | a :: l => by
    cases h : p a with
    | true => rw [List.dropWhile_cons_of_pos h, dw_nil p l]; simp [h]
    | false => rw [List.dropWhile_cons_of_neg (by simp [h])]; simp [h]
theorem dw_or {α : Type} (p : α → Bool) (x : α) : ∀ l : List α, x ∈ l → p x = true ∨ x ∈ l.dropWhile p
  | [], h => by cases h
  | a :: l, h => by
    cases ha : p a with
    | true =>
      rw [List.dropWhile_cons_of_pos ha]
      rcases List.mem_cons.1 h with rfl | h
      · exact .inl ha
      · exact dw_or p x l h
    | false => rw [List.dropWhile_cons_of_neg (by simp [ha])]; exact .inr h
theorem trim_none {l cs : List UInt8} : Lib.trimS l cs = [] ↔ ∀ x ∈ l, cs.contains x = true := by
  unfold Lib.trimS Lib.trimLeftS Lib.trimRightS
  constructor
  · intro h x hx
    rw [dw_nil] at h
    rcases dw_or (cs.contains ·) x l.reverse (by simpa using hx) with h1 | h1
    · exact h1
    · exact h x (by simpa using h1)
  · intro h
    have : l.reverse.dropWhile (cs.contains ·) = [] := by
      rw [dw_nil]
      intro x hx
      exact h x (by simpa using hx)
    rw [this]
    rfl
theorem trim_all (s cs : ByteArray) (p : Int → Bool) (h : ∀ n : Fin 256, cs.data.toList.contains (UInt8.ofNat n.val) = p n.val) :
    ((numsOf s).all p = true ∧ (⟨(Lib.trimS s.data.toList cs.data.toList).toArray⟩ : ByteArray) = ⟨#[]⟩) ∨ ((numsOf s).all p = false ∧ (⟨(Lib.trimS s.data.toList cs.data.toList).toArray⟩ : ByteArray).toList.isEmpty = false) := by
  have hp (x : UInt8) : cs.data.toList.contains x = p (x.toNat : Int) := by
    have := h ⟨x.toNat, x.toNat_lt⟩
    simpa using this
  cases hb : (numsOf s).all p with
  | true =>
    refine .inl ⟨rfl, ?_⟩
    have : Lib.trimS s.data.toList cs.data.toList = [] := by
      rw [trim_none]
      intro x hx
      rw [hp]
      rw [List.all_eq_true] at hb
      exact hb _ (by unfold numsOf; exact List.mem_map.2 ⟨x, hx, rfl⟩)
    rw [this]
  | false =>
    refine .inr ⟨rfl, ?_⟩
    have hne : Lib.trimS s.data.toList cs.data.toList ≠ [] := by
      intro he
      rw [trim_none] at he
      have : (numsOf s).all p = true := by
        rw [List.all_eq_true]
        intro y hy
        unfold numsOf at hy
        obtain ⟨x, hx, rfl⟩ := List.mem_map.1 hy
        rw [← hp]
        exact he x hx
      rw [this] at hb
      cases hb
    rw [ByteArray.toList_eq]
    cases hx : Lib.trimS s.data.toList cs.data.toList with
    | nil => exact absurd hx hne
    | cons a l => rfl
end Go.Proofs.YtjabeabbaambcaaDoor
