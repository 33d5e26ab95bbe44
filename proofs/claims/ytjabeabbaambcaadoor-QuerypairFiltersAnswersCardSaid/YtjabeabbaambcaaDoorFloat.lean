/- What floats over an effect, whatever operation it is: it is walked once more. -/
import Derived.Test.YtjabeabbaambcaaDoorStages
namespace Go.Proofs.YtjabeabbaambcaaDoor
open Go.RowKit

section
variable {P : Program} {ops : Array Oper}
theorem holds_of_put {a : Act} {x : Option Tmp} {v : Value} (h : a.put x v = a) : Holds a x v := by
  intro d hd
  subst hd
  by_cases hlt : d < a.tmps.size
  · right
    rw [← h]
    simp [Act.put, hlt]
  · left; exact Array.getElem?_eq_none (by simpa using hlt)
theorem float_any {C : World → Prop} {o : Oper} {a : Act} (h : wpQuiet P ops C (fun a' => a' = a) [o] a) : ∃ v, YieldsIn P ops C o v a ∧ Holds a o.dst v := by
  unfold wpQuiet at h
  by_cases hw : Region.wanted o (yielded ops a.tmps) = true
  · rw [if_pos hw] at h
    obtain ⟨v, hv, hn⟩ := h
    exact ⟨v, .inl ⟨hw, hv⟩, holds_of_put hn⟩
  · rw [if_neg hw] at h
    exact ⟨undef, .inr ⟨by simpa using hw, rfl⟩, holds_of_put h⟩
end
end Go.Proofs.YtjabeabbaambcaaDoor
