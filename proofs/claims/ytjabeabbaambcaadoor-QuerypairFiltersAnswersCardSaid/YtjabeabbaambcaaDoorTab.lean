/- Tables: lists of rows of one size as they read in memory. -/
import Derived.Test.YtjabeabbaambcaaDoorRow
import Derived.Great.BuildSlice
namespace Go.Proofs.YtjabeabbaambcaaDoor
open Go.RowKit

section
variable {α : Type} {f : α → List Value} {size : Nat}
theorem flat_len : ∀ (T : List α), (∀ x ∈ T, (f x).length = size) → (T.flatMap f).length = T.length * size
  | [], _ => by simp
  | x :: T, h => by
    rw [List.flatMap_cons, List.length_append, flat_len T (fun y hy => h y (List.mem_cons_of_mem _ hy)), h x List.mem_cons_self, List.length_cons, Nat.succ_mul, Nat.add_comm]
theorem flat_get : ∀ (T : List α), (∀ x ∈ T, (f x).length = size) → ∀ (k : Nat) (x : α), T[k]? = some x → ∀ (j : Nat) (v : Value), (f x)[j]? = some v → (T.flatMap f)[k * size + j]? = some v
  | [], _, k, x, h, _, _, _ => by simp at h
  | y :: T, hf, 0, x, h, j, v, hv => by
    obtain rfl : y = x := by simpa using h
    rw [List.flatMap_cons, Nat.zero_mul, Nat.zero_add, List.getElem?_append_left (List.getElem?_eq_some_iff.1 hv).1]
    exact hv
  | y :: T, hf, k + 1, x, h, j, v, hv => by
    have h1 := flat_get T (fun z hz => hf z (List.mem_cons_of_mem _ hz)) k x (by simpa using h) j v hv
    have h2 := hf y List.mem_cons_self
    rw [List.flatMap_cons, List.getElem?_append_right (by rw [h2, Nat.succ_mul]; omega), h2, show (k + 1) * size + j - size = k * size + j by rw [Nat.succ_mul]; omega]
    exact h1
theorem flat_one (T : List α) (h : ∀ x ∈ T, (f x).all (·.oneCell') = true) : ∀ u ∈ T.flatMap f, u.oneCell' = true := by
  intro u hu
  obtain ⟨x, hx, hm⟩ := List.mem_flatMap.1 hu
  exact List.all_eq_true.1 (h x hx) u hm
variable {w : World} {B n : Nat} {A : Option Addr} {T : List α}
theorem Rd.count (h : Rd w B size A n (T.flatMap f)) (hf : ∀ x ∈ T, (f x).length = size) (hs : 0 < size) : T.length = n := by
  have h1 := h.1
  rw [flat_len T hf] at h1
  exact Nat.eq_of_mul_eq_mul_right hs h1
theorem Rd.row (h : Rd w B size A n (T.flatMap f)) (hf : ∀ x ∈ T, (f x).length = size) (hs : 0 < size) {k : Nat} (hk : k < n) :
    ∃ b off x, A = some ⟨b, off, none⟩ ∧ b < B ∧ T[k]? = some x ∧ w.rangeAt b (off + k * size) (f x) := by
  have hl := h.count hf hs
  obtain ⟨b, off, e, hb, hc⟩ := h.2 (by omega)
  have hkT : k < T.length := by omega
  refine ⟨b, off, T[k], e, hb, List.getElem?_eq_getElem hkT, fun j v hj => ?_⟩
  have := hc _ v (flat_get T hf k T[k] (List.getElem?_eq_getElem hkT) j v hj)
  rw [← Nat.add_assoc] at this
  exact this
theorem Own.row {e : TypeId} {c : Nat} (h : Own w B e size A n c (T.flatMap f)) (hf : ∀ x ∈ T, (f x).length = size) (hs : 0 < size) {k : Nat} (hk : k < n) :
    ∃ b x, A = some ⟨b, 0, none⟩ ∧ b < w.heap.size ∧ T[k]? = some x ∧ w.rangeAt b (k * size) (f x) := by
  obtain ⟨g, rfl, _, hlt⟩ := h.form (by omega)
  obtain ⟨b, off, x, he, _, hT, hr⟩ := h.rd.row hf hs hk
  simp only [Option.some.injEq, Addr.mk.injEq] at he
  obtain ⟨rfl, rfl, _⟩ := he
  rw [Nat.zero_add] at hr
  exact ⟨_, x, rfl, hlt, hT, hr⟩
end
section
variable {w w' : World} {S : List Nat} {g o : Nat} {cs : List Value}
theorem range_ch (h : w.rangeAt g o cs) (hc : Ch S w w') (hg : g < w.heap.size) (hn : g ∉ S) : w'.rangeAt g o cs :=
  fun j v hj => (hc.cell (p := ⟨g, o + j, none⟩) hg hn).trans (h j v hj)
end
section
variable {P : Program} {ops : Array Oper} {rest : List Oper} {o : Oper} {a : Act} {w : World} {Q : Exit → Act → World → Prop}
/-- A slice literal of rows. -/
theorem wpList_buildRows (hg : o.guard = none) (t e : TypeId) (len : Nat) (parts : Array (Nat × Operand)) (ho : o.op = .buildSlice t len parts)
    (cells : List Value) (z : Value) (size bytes : Nat) (hu : P.underlying t = some (.slice e)) (hinfo : (P.info? e).map (fun i => (i.zero, i.size, i.bytes)) = some (some z, size, bytes)) (hsmall : len * size ≤ 1000) (hpos : 0 < len * size)
    (hf : Instr.fill (fun i => some (i * size, size)) ((Array.range (len * size)).map (z.cells[· % z.cells.size]!)) (parts.map fun (i, x) => (i, a.eval x)).toList = some cells.toArray)
    (h : wpList P ops Q rest (a.put o.dst (.slice (some ⟨w.heap.size, 0, none⟩) len len)) (w.alloc (.cells cells.toArray e))) : wpList P ops Q (o :: rest) a w := by
  obtain ⟨i, hi, hz, hsize, _⟩ := info_parts hinfo
  subst hsize
  exact wpList_buildSlice hg t e len parts ho cells.toArray i z hu hi hz (by omega) (by omega) hf h
end
end Go.Proofs.YtjabeabbaambcaaDoor
