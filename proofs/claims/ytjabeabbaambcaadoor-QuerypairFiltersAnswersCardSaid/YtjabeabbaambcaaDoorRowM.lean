/- A row (a struct, an array) stored into the middle of a block. -/
import Derived.Test.YtjabeabbaambcaaDoorRow
import Derived.Deep.MidRow
namespace Go.Proofs.YtjabeabbaambcaaDoor
open Go.RowKit

/-- A list with another laid over it from place o on. -/
def overL : List Value → Nat → List Value → List Value
  | cs, _, [] => cs
  | cs, o, v :: r => overL (cs.set o v) (o + 1) r
section
variable {P : Program} {w w' a : World} {g : Nat} {t : TypeId} {cs cs' : List Value} {S : List Nat}
theorem overL_len : ∀ (vs cs : List Value) (o : Nat), (overL cs o vs).length = cs.length
  | [], _, _ => rfl
  | v :: r, cs, o => by rw [overL, overL_len r]; simp
theorem Blk.setCells : ∀ (vs : List Value) (o : Nat) {w : World} {cs : List Value}, Blk w g t cs → Blk (w.setCells g o vs) g t (overL cs o vs)
  | [], _, _, _, h => h
  | v :: r, o, _, _, h => Blk.setCells r (o + 1) (h.set o v)
theorem Ch.setCells (hg : g ∈ S ∨ a.heap.size ≤ g) : ∀ (vs : List Value) (o : Nat) {w : World}, Ch S a w → Ch S a (w.setCells g o vs)
  | [], _, _, h => h
  | v :: r, o, _, h => Ch.setCells hg r (o + 1) (h.setCell (p := ⟨g, o, none⟩) hg v)
theorem size_setCells : ∀ (vs : List Value) (o : Nat) (w : World), (w.setCells g o vs).heap.size = w.heap.size
  | [], _, _ => rfl
  | v :: r, o, w => by rw [World.setCells, size_setCells r]; simp
theorem Blk.there (h : Blk w g t cs) (o n : Nat) (hf : o + n ≤ cs.length) : w.there g o n := fun j hj =>
  ⟨by rw [h.cell, List.getElem?_eq_getElem (by omega)]; rfl, h.frozen _⟩

variable {ops : Array Oper} {rest : List Oper} {o : Oper} {ac : Act} {Q : Exit → Act → World → Prop} {K : Act → World → Prop}
theorem wp_storeM (ty : TypeId) (x y : Operand) (ho : o.op = .store ty x y)
    (g p : Nat) (t : TypeId) (cs vs cs' : List Value) (hx : ac.eval x = .pointer (some ⟨g, p, none⟩)) (hy : ac.eval y = .agg vs.toArray) (hB : Blk w g t cs) (he : overL cs p vs = cs') (hf : p + vs.length ≤ cs.length)
    (hi : (P.info? ty).map (·.size) = some vs.length) (h1 : vs.all (·.oneCell') = true)
    (h : ∀ w', Blk w' g t cs' → Ch [g] w w' → w'.heap.size = w.heap.size → K (ac.put o.dst undef) w') : o.wp P ac w K Q :=
  wp_store_mid ty x y ho g p vs.toArray hx hy (hB.there p _ (by simpa using hf)) (by simpa using hi) (by simpa using h1)
    (by rw [List.toList_toArray]; exact h _ (he ▸ hB.setCells vs p) ((Ch.refl _ _).setCells (.inl (by simp)) vs p) (size_setCells ..))
theorem wpList_storeM (hgd : o.guard = none) (ty : TypeId) (x y : Operand) (ho : o.op = .store ty x y)
    (g p : Nat) (t : TypeId) (cs vs cs' : List Value) (hx : ac.eval x = .pointer (some ⟨g, p, none⟩)) (hy : ac.eval y = .agg vs.toArray) (hB : Blk w g t cs) (he : overL cs p vs = cs') (hf : p + vs.length ≤ cs.length)
    (hi : (P.info? ty).map (·.size) = some vs.length) (h1 : vs.all (·.oneCell') = true)
    (h : ∀ w', Blk w' g t cs' → Ch [g] w w' → w'.heap.size = w.heap.size → wpList P ops Q rest (ac.put o.dst undef) w') : wpList P ops Q (o :: rest) ac w :=
  wpList_plain hgd fun _ hK => wp_storeM ty x y ho g p t cs vs cs' hx hy hB he hf hi h1 fun w' h1 h2 h3 => hK _ _ (h w' h1 h2 h3)
end
end Go.Proofs.YtjabeabbaambcaaDoor
