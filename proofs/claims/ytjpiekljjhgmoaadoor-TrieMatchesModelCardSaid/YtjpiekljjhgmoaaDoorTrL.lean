/- The stored nodes along the path of an address: plain. -/
import Derived.Test.YtjpiekljjhgmoaaDoorTrN
namespace Go.Proofs.YtjpiekljjhgmoaaDoor
open Go.RowKit

def ndOn (o : Option ND) : Option ND := o.bind fun d => if d.pr then some d else none
def pathL (nd : Tri) (six : Bool) (bs : List Int) (k : Nat) : List ND := (List.range k).filterMap fun i => ndOn (nd (keyA six bs i))
def bitN (six : Bool) : Nat := if six then 128 else 32
theorem bitN_eq (six : Bool) : bitL six = (bitN six : Nat) := by cases six <;> rfl
def mchL (nd : Tri) (six : Bool) (bs : List Int) : List ND := if validA six bs then pathL nd six bs (bitN six + 1) else []
theorem pathL_succ (nd : Tri) (six : Bool) (bs : List Int) (k : Nat) : pathL nd six bs (k + 1) = pathL nd six bs k ++ (ndOn (nd (keyA six bs k))).toList := by
  unfold pathL
  rw [List.range_succ, List.filterMap_append]
  cases h : ndOn (nd (keyA six bs k)) <;> simp [h]
theorem pathL_len (nd : Tri) (six : Bool) (bs : List Int) (k : Nat) : (pathL nd six bs k).length ≤ k := by
  unfold pathL
  exact Nat.le_trans (List.length_filterMap_le _ _) (by simp)
theorem pathL_stop {nd : Tri} {six : Bool} {bs : List Int} {k n : Nat} (hkn : k ≤ n) (h : ∀ j, k ≤ j → nd (keyA six bs j) = none) : pathL nd six bs n = pathL nd six bs k := by
  induction n with
  | zero => obtain rfl : k = 0 := by omega
            rfl
  | succ n ih =>
    by_cases e : k = n + 1
    · rw [e]
    · rw [pathL_succ, ih (by omega), h n (by omega)]
      simp [ndOn]
theorem pathL_mem {nd : Tri} {six : Bool} {bs : List Int} {n : Nat} {d : ND} (h : d ∈ pathL nd six bs n) : ∃ k, k < n ∧ nd (keyA six bs k) = some d ∧ d.pr = true := by
  unfold pathL at h
  rw [List.mem_filterMap] at h
  obtain ⟨k, hk, he⟩ := h
  refine ⟨k, by simpa using hk, ?_⟩
  unfold ndOn at he
  cases hc : nd (keyA six bs k) with
  | none => rw [hc] at he; simp at he
  | some e =>
    rw [hc] at he
    simp only [Option.bind_some] at he
    split at he
    · obtain rfl := Option.some.inj he
      exact ⟨rfl, by assumption⟩
    · cases he
theorem mchL_mem {nd : Tri} {six : Bool} {bs : List Int} {d : ND} (h : d ∈ mchL nd six bs) : ∃ k, k ≤ bitN six ∧ nd (keyA six bs k) = some d ∧ d.pr = true := by
  unfold mchL at h
  split at h
  · obtain ⟨k, hk, h2⟩ := pathL_mem h
    exact ⟨k, by omega, h2⟩
  · cases h
def ndPtr (d : ND) : Value := .pointer (some ⟨d.b, 0, none⟩)
theorem ptrV_form (o : Option ND) : ∃ po, ptrV o = .pointer po := by cases o <;> exact ⟨_, rfl⟩
end Go.Proofs.YtjpiekljjhgmoaaDoor
