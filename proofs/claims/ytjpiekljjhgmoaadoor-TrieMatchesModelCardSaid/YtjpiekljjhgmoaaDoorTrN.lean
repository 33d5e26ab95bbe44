/- Links of a trie: where they lie, behind a change. -/
import Derived.Test.YtjpiekljjhgmoaaDoorTrC
namespace Go.Proofs.YtjpiekljjhgmoaaDoor
open Go.RowKit

section
variable {nd : Tri} {g : Nat} {κ : Key} {la : Addr}
theorem LinkAt.set (hl : LinkAt nd g κ la) (e : Option ND) : LinkAt (nd.set κ e) g κ la := by
  cases hl with
  | root s => exact .root s
  | child κ0 c d hd => exact .child κ0 c d (by rw [Tri.set_other _ _ (fun h => snoc_ne κ0 c h.symm)]; exact hd)
theorem LinkAt.blk {F : List Nat} {N : Nat} (hl : LinkAt nd g κ la) (hg : g ∈ F) (hB : ∀ κ d, nd κ = some d → d.b ∈ F ∨ N < d.b) : la.block ∈ F ∨ N < la.block := by
  cases hl with
  | root s => exact .inl hg
  | child κ0 c d hd => exact hB κ0 d hd
theorem LinkAt.next {six : Bool} {bs : List Int} {k : Nat} {d : ND} (hd : nd (keyA six bs k) = some d) : LinkAt nd g (keyA six bs (k + 1)) ⟨d.b, if bitA bs k == 1 then 21 else 20, none⟩ := by
  rw [keyA_succ]
  exact .child _ _ _ hd
end
section
variable {tn tt : TypeId} {w : World} {g : Nat} {nd : Tri} {n : Int}
theorem TrI.kids (h : TrI tn tt w g nd n) {κ : Key} (hne : κ ≠ []) (hk : nd κ = none) (c : Bool) : nd (κ ++ [c]) = none := by
  cases hc : nd (κ ++ [c]) with
  | none => rfl
  | some d => exact absurd hk (h.par κ c hne (by rw [hc]; simp))
/-- Behind a missing node the path is empty. -/
theorem TrI.past (h : TrI tn tt w g nd n) {six : Bool} {bs : List Int} {k : Nat} (hk : nd (keyA six bs k) = none) : ∀ j, k ≤ j → nd (keyA six bs j) = none := by
  intro j hj
  induction j with
  | zero => obtain rfl : k = 0 := by omega
            exact hk
  | succ j ih =>
    by_cases e : k = j + 1
    · subst e; exact hk
    · rw [keyA_succ]
      exact h.kids (keyA_ne _ _ _) (ih (by omega)) _
/-- A new node at a link. -/
theorem TrI.grow {w3 : World} (h : TrI tn tt w3 g nd n) (ht : tn ≠ tt) {κ : Key} {la : Addr} (hl : LinkAt nd g κ la) (hκ : nd κ = none) (q : Pfx) (z : Value) (hq : OkP q) (hqk : keyP q = κ) (cs : List Value) (hcs : cs = pfxC q ++ [.bool false, z, .pointer none, .pointer none]) (b : Nat) (hb : w3.heap.size = b) :
    TrI tn tt ((w3.alloc (.cells cs.toArray tn)).setCell la (.pointer (some ⟨b, 0, none⟩))) g (nd.set κ (some ⟨b, q, false, z⟩)) n := by
  subst hb
  have hne : κ ≠ [] := by rw [← hqk]; exact keyA_ne _ _ _
  have h2 := h.nil ((Ch.refl [] w3).alloc (.cells cs.toArray tn))
  refine h2.relink ht hl (some ⟨w3.heap.size, q, false, z⟩) (h.kids hne hκ false) (h.kids hne hκ true) fun d hd => ?_
  obtain rfl := Option.some.inj hd
  refine ⟨?_, fun κ' d' h' e => ?_, hq, hqk⟩
  · have := Blk.new w3 tn cs
    rw [hcs] at this ⊢
    exact this
  · have := (h.node κ' d' h').lt
    simp only at e
    omega
end
theorem val_grow {nd : Tri} {κ : Key} {m : Key → Option Value} (h : ∀ κ', nd.val κ' = m κ') (hκ : nd κ = none) (b : Nat) (q : Pfx) (z : Value) : ∀ κ', (nd.set κ (some ⟨b, q, false, z⟩)).val κ' = m κ' := fun κ' => by
  by_cases e : κ' = κ
  · subst e
    rw [Tri.val_set_off, ← h, Tri.val, hκ]
  · rw [Tri.val_set_other _ _ e, h]
theorem val_put {nd : Tri} {κ : Key} {m : Key → Option Value} (h : ∀ κ', nd.val κ' = m κ') (b : Nat) (q : Pfx) (x : Value) : ∀ κ', (nd.set κ (some ⟨b, q, true, x⟩)).val κ' = if κ' = κ then some x else m κ' := fun κ' => by
  by_cases e : κ' = κ
  · subst e
    rw [Tri.val_set_same, if_pos rfl]
  · rw [Tri.val_set_other _ _ e, if_neg e, h]
theorem blk_set {nd : Tri} {κ : Key} {Q : Nat → Prop} (h : ∀ κ d, nd κ = some d → Q d.b) (e : ND) (he : Q e.b) : ∀ κ' d, (nd.set κ (some e)) κ' = some d → Q d.b := fun κ' d hd => by
  by_cases ek : κ' = κ
  · subst ek
    rw [Tri.set_same] at hd
    obtain rfl := Option.some.inj hd
    exact he
  · rw [Tri.set_other _ _ ek] at hd
    exact h κ' d hd
end Go.Proofs.YtjpiekljjhgmoaaDoor
