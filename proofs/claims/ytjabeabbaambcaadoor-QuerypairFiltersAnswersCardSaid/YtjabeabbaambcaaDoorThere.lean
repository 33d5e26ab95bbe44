/- A row stored anywhere in a block that may be written; a slice of rows of the call's own may be written. -/
import Derived.Test.YtjabeabbaambcaaDoorTab
import Derived.Test.YtjabeabbaambcaaDoorRowM
namespace Go.Proofs.YtjabeabbaambcaaDoor
open Go.RowKit

section
variable {P : Program} {ops : Array Oper} {rest : List Oper} {o : Oper} {ac : Act} {w : World} {Q : Exit → Act → World → Prop}
theorem wpList_storeT (hgd : o.guard = none) (ty : TypeId) (x y : Operand) (ho : o.op = .store ty x y)
    (g p : Nat) (vs : List Value) (hx : ac.eval x = .pointer (some ⟨g, p, none⟩)) (hy : ac.eval y = .agg vs.toArray) (ht : w.there g p vs.length)
    (hi : (P.info? ty).map (·.size) = some vs.length) (h1 : vs.all (·.oneCell') = true)
    (h : ∀ w', Ch [g] w w' → (∀ p' n', w.there g p' n' → w'.there g p' n') → wpList P ops Q rest (ac.put o.dst undef) w') : wpList P ops Q (o :: rest) ac w :=
  wpList_store_mid hgd ty x y ho g p vs.toArray hx hy (by simpa using ht) (by simpa using hi) (by simpa using h1)
    (by rw [List.toList_toArray]; exact h _ ((Ch.refl _ _).setCells (.inl (by simp)) vs p) (fun _ _ hh => World.there_setCells hh g p vs))
theorem there_ch {w' : World} {S : List Nat} {g p n : Nat} (h : w.there g p n) (hc : Ch S w w') (hg : g < w.heap.size) (hn : g ∉ S) : w'.there g p n := fun j hj =>
  ⟨by rw [hc.cell (p := ⟨g, p + j, none⟩) hg hn]; exact (h j hj).1, by rw [hc.frozen (p := ⟨g, p + j, none⟩) hg hn]; exact (h j hj).2⟩
theorem there_sub {g p n q m : Nat} (h : w.there g p n) (h1 : p ≤ q) (h2 : q + m ≤ p + n) : w.there g q m := fun j hj => by
  have := h (q - p + j) (by omega)
  rwa [show p + (q - p + j) = q + j by omega] at this
theorem Own.there {B : Nat} {e : TypeId} {size n c g : Nat} {xs : List Value} (h : Own w B e size (some ⟨g, 0, none⟩) n c xs) : w.there g 0 (n * size) := fun j hj => by
  refine ⟨?_, ?_⟩
  · obtain ⟨v, hv⟩ : ∃ v, xs[j]? = some v := ⟨_, List.getElem?_eq_getElem (by rw [h.1]; exact hj)⟩
    rcases Nat.eq_zero_or_pos n with h0 | hp
    · subst h0; omega
    · obtain ⟨b, off, he, _, hc⟩ := h.rd.2 hp
      simp only [Option.some.injEq, Addr.mk.injEq] at he
      obtain ⟨rfl, rfl, _⟩ := he
      rw [hc j v hv]; rfl
  · rcases h.2 with ⟨h0, _⟩ | ⟨b, cap, cur, hv, _, hh, _⟩
    · cases h0
    · simp only [Value.slice.injEq, Option.some.injEq, Addr.mk.injEq] at hv
      obtain ⟨⟨rfl, _⟩, _, _⟩ := hv
      simp [World.frozen?, hh]
theorem Rd.rangeE {α : Type} {f : α → List Value} {size B n : Nat} {A : Option Addr} {T : List α} (h : Rd w B size A n (T.flatMap f)) (hf : ∀ x ∈ T, (f x).length = size) (hs : 0 < size) :
    T.length = n ∧ (0 < n → ∃ b off, A = some ⟨b, off, none⟩ ∧ b < B ∧ ∀ (k : Nat) (x : α), T[k]? = some x → w.rangeAt b (off + k * size) (f x)) := by
  refine ⟨h.count hf hs, fun hp => ?_⟩
  obtain ⟨b, off, e, hb, hc⟩ := h.2 hp
  refine ⟨b, off, e, hb, fun k x hk j v hj => ?_⟩
  have := hc _ v (flat_get T hf k x hk j v hj)
  rwa [← Nat.add_assoc] at this
end
end Go.Proofs.YtjabeabbaambcaaDoor
