/- Pieces between the occurrences of a byte: the plain layer, for any byte. -/
import Derived.Test.YtjabeabbaambcaaDoorName
namespace Go.Proofs.YtjabeabbaambcaaDoor
open Go.RowKit

def splitC (c : Int) : List Int → List (List Int)
  | [] => [[]]
  | x :: l => if x = c then [] :: splitC c l else
    match splitC c l with
    | y :: r => (x :: y) :: r
    | [] => [[x]]
theorem splitC_ne (c : Int) : ∀ l : List Int, splitC c l ≠ []
  | [] => by simp [splitC]
  | x :: l => by
    unfold splitC
    split
    · simp
    · split <;> simp
theorem splitC_free (c : Int) : ∀ l : List Int, (∀ x ∈ l, x ≠ c) → splitC c l = [l]
  | [], _ => rfl
  | x :: l, h => by
    unfold splitC
    rw [if_neg (h x (by simp)), splitC_free c l (fun y hy => h y (by simp [hy]))]
theorem splitC_cut (c : Int) : ∀ a b : List Int, (∀ x ∈ a, x ≠ c) → splitC c (a ++ c :: b) = a :: splitC c b
  | [], b, _ => by rw [List.nil_append, splitC, if_pos rfl]
  | x :: a, b, h => by
    rw [List.cons_append, splitC, if_neg (h x (by simp)), splitC_cut c a b (fun y hy => h y (by simp [hy]))]
theorem splitC_46 : ∀ l : List Int, splitC 46 l = splitD l
  | [] => rfl
  | x :: l => by
    unfold splitC splitD
    rw [splitC_46 l]
    split
    · rfl
    · cases splitD l <;> rfl
theorem splitC_len (c : Int) : ∀ l : List Int, (splitC c l).length ≤ l.length + 1
  | [] => Nat.le_refl _
  | x :: l => by
    unfold splitC
    have := splitC_len c l
    split
    · simp; omega
    · split
      · rename_i h; rw [h] at this; simp at this ⊢; omega
      · simp
theorem splitC_size (c : Int) : ∀ l : List Int, ∀ x ∈ splitC c l, x.length ≤ l.length
  | [], x, h => by simp [splitC] at h; subst h; exact Nat.le_refl _
  | y :: l, x, h => by
    unfold splitC at h
    have ih := splitC_size c l
    split at h
    · rcases List.mem_cons.1 h with rfl | h
      · simp
      · have := ih x h; simp; omega
    · split at h
      · rename_i z r hz
        rw [hz] at ih
        rcases List.mem_cons.1 h with rfl | h
        · have := ih z (by simp); simp; omega
        · have := ih x (by simp [h]); simp; omega
      · simp at h; subst h; simp
/-- One step of the loop that splits: the piece from f to i is closed at i. -/
theorem splitC_step (c : Int) (l : List Int) (f i : Nat) (hf : f ≤ i) (hi : i < l.length) (hc : at_ l i = c) (hn : ∀ j, f ≤ j → j < i → at_ l j ≠ c) : splitC c (l.drop f) = (l.drop f).take (i - f) :: splitC c (l.drop (i + 1)) := by
  have h1 : l.drop f = (l.drop f).take (i - f) ++ c :: l.drop (i + 1) := by
    conv => lhs; rw [← List.take_append_drop (i - f) (l.drop f), List.drop_drop, show f + (i - f) = i by omega, List.drop_eq_getElem_cons hi]
    have : l[i] = c := by rw [← hc]; simp [at_, List.getD, hi]
    rw [this]
  conv => lhs; rw [h1]
  apply splitC_cut
  intro x hx
  obtain ⟨j, hj⟩ := List.mem_iff_getElem?.1 hx
  rw [List.getElem?_take] at hj
  split at hj
  · rename_i hji
    rw [List.getElem?_drop] at hj
    have := hn (f + j) (by omega) (by omega)
    intro he
    apply this
    simp only [at_, List.getD, hj, Option.getD_some]
    exact he
  · cases hj
theorem splitC_last (c : Int) (l : List Int) (f : Nat) (hn : ∀ j, f ≤ j → j < l.length → at_ l j ≠ c) : splitC c (l.drop f) = [l.drop f] := by
  apply splitC_free
  intro x hx
  obtain ⟨j, hj⟩ := List.mem_iff_getElem?.1 hx
  rw [List.getElem?_drop] at hj
  have hlt : f + j < l.length := by
    rcases Nat.lt_or_ge (f + j) l.length with h | h
    · exact h
    · rw [List.getElem?_eq_none h] at hj; cases hj
  intro he
  apply hn (f + j) (by omega) hlt
  simp only [at_, List.getD, hj, Option.getD_some]
  exact he
end Go.Proofs.YtjabeabbaambcaaDoor
