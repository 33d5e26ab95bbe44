/- Arguments of any shape, opened by their cells: integers, bools, strings, structs, arrays, slices of whatever. -/
import Derived.Test.YtjabeabbaambcaaDoorShell
import Derived.Test.YtjabeabbaambcaaDoorMem
import Derived.Deep.Slices
import Derived.OpenShut
namespace Go.Proofs.YtjabeabbaambcaaDoor
open Go.ChangeShapes Go.WideShapes Go.ChangeAt Go.RowKit

section
variable {H : Type} {enc : TypeId × Value → H} {P : Program} {W : World}

/-- The cells read as a value of type t, and no part of it outgrows the form's reach. -/
def Cl (enc : TypeId × Value → H) (P : Program) (W : World) (t : TypeId) (cs : List Value) : Prop :=
  ∃ d fuel ps, DataW.trod enc P W 0 (fun _ => true) true fuel t cs = some (d, ps) ∧ ∀ n ∈ d.weights P t, n ≤ reachBytes

theorem Arg.cl {t : TypeId} {v : Value} {d : DataW H} (h : Arg enc P W t v d) : Cl enc P W t v.cells.toList := by
  obtain ⟨_, ⟨p, fuel, ht⟩, hw⟩ := h
  exact ⟨d, fuel, p, ht, hw⟩

theorem Cl.int {t : TypeId} {k : IntKind} {cs : List Value} (hu : P.underlying t = some (.int k)) (h : Cl enc P W t cs) : ∃ n, cs = [.int k n] ∧ (Lit.int k n).wf = true := by
  obtain ⟨d, fuel, ps, ht, _⟩ := h
  obtain ⟨n, e, _, hw⟩ := DataW.trod_int hu ht
  exact ⟨n, e, hw⟩
theorem Cl.i64 {t : TypeId} {cs : List Value} (hu : P.underlying t = some (.int .i64)) (h : Cl enc P W t cs) : ∃ n, cs = [.int .i64 n] ∧ -9223372036854775808 ≤ n ∧ n ≤ 9223372036854775807 := by
  obtain ⟨n, e, hw⟩ := h.int hu; exact ⟨n, e, bounds_i64 hw⟩
theorem Cl.u64 {t : TypeId} {cs : List Value} (hu : P.underlying t = some (.int .u64)) (h : Cl enc P W t cs) : ∃ n, cs = [.int .u64 n] ∧ 0 ≤ n ∧ n ≤ 18446744073709551615 := by
  obtain ⟨n, e, hw⟩ := h.int hu; exact ⟨n, e, bounds_u64 hw⟩
theorem Cl.bool {t : TypeId} {cs : List Value} (hu : P.underlying t = some .bool) (h : Cl enc P W t cs) : ∃ b, cs = [.bool b] := by
  obtain ⟨d, fuel, ps, ht, _⟩ := h
  obtain ⟨b, e, _⟩ := DataW.trod_bool hu ht
  exact ⟨b, e⟩
theorem Cl.string {t : TypeId} {cs : List Value} (hu : P.underlying t = some .string) (h : Cl enc P W t cs) : ∃ s : ByteArray, cs = [.string s] ∧ s.size ≤ 140737488351232 := by
  obtain ⟨d, fuel, ps, ht, hw⟩ := h
  obtain ⟨s, e, hx, hs⟩ := DataW.trod_string hu ht
  simp only [Prod.mk.injEq] at hx
  obtain ⟨rfl, _⟩ := hx
  refine ⟨s, e, ?_⟩
  have := hw s.data.toList.length (by simp [DataW.weights])
  simpa [reachBytes] using this

theorem weightsAll_mem {e : TypeId} {ds : List (DataW H)} {d : DataW H} (hd : d ∈ ds) {n : Nat} (hn : n ∈ d.weights P e) : n ∈ DataW.weightsAll P e ds := by
  induction ds with
  | nil => cases hd
  | cons x r ih =>
    simp only [DataW.weightsAll, List.mem_append]
    rcases List.mem_cons.1 hd with rfl | h
    · exact .inl hn
    · exact .inr (ih h)

/-- A slice: its elements by their index, each by its cells. -/
theorem Cl.slice {t e : TypeId} {cs : List Value} (hu : P.underlying t = some (.slice e)) (hpos : 0 < P.cellsOf e) (h : Cl enc P W t cs) :
    ∃ A len cap, cs = [.slice A len cap] ∧ len ≤ cap ∧ cap ≤ maxLen ∧ cap * P.bytesOf e ≤ 140737488351232 ∧
      (0 < len → ∃ b off, A = some ⟨b, off, none⟩ ∧ b < W.heap.size ∧ ∀ i, i < len → ∃ c, c.length = P.cellsOf e ∧ (∀ j, j < P.cellsOf e → W.cell? ⟨b, off + i * P.cellsOf e + j, none⟩ = c[j]?) ∧ Cl enc P W e c) := by
  obtain ⟨d, fuel, ps, ht, hw⟩ := h
  rcases Go.Deep.open_slice hu ht with ⟨rfl, _⟩ | ⟨a, len, cap, m, n, D, Pl, rfl, _, hl, hm, hmm, hx, hel⟩
  · exact ⟨none, 0, 0, rfl, Nat.le_refl _, by unfold maxLen; omega, by omega, fun h => absurd h (by omega)⟩
  · simp only [if_true] at hmm
    subst hmm
    simp only [Prod.mk.injEq] at hx
    obtain ⟨rfl, _⟩ := hx
    simp only [DataW.weights, hu, List.mem_cons, List.mem_append] at hw
    refine ⟨some a, len, m, rfl, hl, hm, ?_, fun hp => ?_⟩
    · have := hw ((len + (m - len)) * P.bytesOf e) (.inl (by simp))
      rw [show len + (m - len) = m by omega] at this
      simpa [reachBytes] using this
    · obtain ⟨b, off, spot⟩ := a
      obtain ⟨c0, hc0, _⟩ := hel 0 (by omega)
      obtain ⟨_, hlen0, hcell0⟩ := World.cells?_some hc0
      have h00 := hcell0 0 hpos
      have hlt : c0[0]? = some c0[0] := List.getElem?_eq_getElem (by omega)
      rw [hlt] at h00
      have hspot : spot = none := by simpa [Addr.add] using World.cell?_spot h00
      subst hspot
      refine ⟨b, off, rfl, by simpa [Addr.add] using World.block_lt_of_cell? W _ h00, fun i hi => ?_⟩
      obtain ⟨c, hc, htr⟩ := hel i (by omega)
      obtain ⟨_, hlen, hcell⟩ := World.cells?_some hc
      refine ⟨c, hlen, fun j hj => ?_, D i, n, Pl i, htr, fun x hx => ?_⟩
      · have := hcell j hj
        rw [Go.Deep.add_add] at this
        rw [← this]
        simp only [Addr.add]
        split <;> simp_all [Nat.add_assoc]
      · exact hw x (.inr (.inl (weightsAll_mem (List.mem_map.2 ⟨i, by simpa using hi, rfl⟩) hx)))

/-- An argument that is a slice. -/
theorem Arg.slice {t e : TypeId} {v : Value} {d : DataW H} (hu : P.underlying t = some (.slice e)) (hpos : 0 < P.cellsOf e) (h : Arg enc P W t v d) :
    ∃ A len cap, v = .slice A len cap ∧ len ≤ cap ∧ cap ≤ maxLen ∧ cap * P.bytesOf e ≤ 140737488351232 ∧
      (0 < len → ∃ b off, A = some ⟨b, off, none⟩ ∧ b < W.heap.size ∧ ∀ i, i < len → ∃ c, c.length = P.cellsOf e ∧ (∀ j, j < P.cellsOf e → W.cell? ⟨b, off + i * P.cellsOf e + j, none⟩ = c[j]?) ∧ Cl enc P W e c) := by
  obtain ⟨A, len, cap, e, rest⟩ := h.cl.slice hu hpos
  obtain ⟨⟨base, hv⟩, _, _⟩ := h
  obtain ⟨A', len', cap', rfl⟩ := okWide_slice hu hv
  simp [Value.cells] at e
  obtain ⟨rfl, rfl, rfl⟩ := e
  exact ⟨A', len', cap', rfl, rest⟩

theorem weightsEach_mem {ts : List TypeId} {ds : List (DataW H)} {i : Nat} {t : TypeId} {d : DataW H} (h1 : ts[i]? = some t) (h2 : ds[i]? = some d) {n : Nat} (hn : n ∈ d.weights P t) : n ∈ DataW.weightsEach P ts ds := by
  have := DataW.weights_mem_each h1 h2 n hn
  exact this

/-- A struct: its fields. -/
theorem Cl.struct {t : TypeId} {fs : Array Field} {cs : List Value} (hu : P.underlying t = some (.struct fs)) (h : Cl enc P W t cs) :
    cs.length = P.cellsOf t ∧ ∀ (i : Nat) (f : Field), fs[i]? = some f → Cl enc P W f.type ((cs.drop f.offset).take (P.cellsOf f.type)) := by
  obtain ⟨d, fuel, ps, ht, hw⟩ := h
  obtain ⟨xs, n, _, hx, hl, hxl, hf⟩ := DataW.trod_struct hu ht
  simp only [Prod.mk.injEq] at hx
  obtain ⟨rfl, _⟩ := hx
  refine ⟨hl, fun i f hfi => ?_⟩
  have hi : i < fs.size := (Array.getElem?_eq_some_iff.1 hfi).1
  have hxi : xs[i]? = some xs[i] := List.getElem?_eq_getElem (by omega)
  have := hf i f hfi
  rw [hxi] at this
  refine ⟨(xs[i]'(by omega)).1, n, (xs[i]'(by omega)).2, this, fun x hx => hw x ?_⟩
  simp only [DataW.weights, hu]
  exact weightsEach_mem (i := i) (t := f.type) (by simp [hfi]) (by simp [hxi]) hx

theorem Cl.field {t : TypeId} {fs : Array Field} {cs : List Value} (hu : P.underlying t = some (.struct fs)) (h : Cl enc P W t cs) (i : Nat) (u : TypeId) (off n : Nat) (hi : (fs[i]?).map (fun f => (f.type, f.offset)) = some (u, off)) (hn : P.cellsOf u = n) :
    Cl enc P W u ((cs.drop off).take n) := by
  obtain ⟨f, hf, e⟩ := Option.map_eq_some_iff.1 hi
  simp only [Prod.mk.injEq] at e
  obtain ⟨rfl, rfl⟩ := e
  subst hn
  exact (h.struct hu).2 i f hf

/-- An array: its elements. -/
theorem Cl.array {t e : TypeId} {n : Nat} {cs : List Value} (hu : P.underlying t = some (.array n e)) (h : Cl enc P W t cs) :
    cs.length = P.cellsOf t ∧ ∀ i, i < n → Cl enc P W e ((cs.drop (i * P.cellsOf e)).take (P.cellsOf e)) := by
  obtain ⟨d, fuel, ps, ht, hw⟩ := h
  obtain ⟨xs, m, _, hx, hl, hxl, hf⟩ := DataW.trod_array hu ht
  simp only [Prod.mk.injEq] at hx
  obtain ⟨rfl, _⟩ := hx
  refine ⟨hl, fun i hi => ?_⟩
  have hxi : xs[i]? = some xs[i] := List.getElem?_eq_getElem (by omega)
  have := hf i hi
  rw [hxi] at this
  refine ⟨(xs[i]'(by omega)).1, m, (xs[i]'(by omega)).2, this, fun x hx => hw x ?_⟩
  simp only [DataW.weights, hu]
  exact weightsAll_mem (List.mem_map.2 ⟨xs[i], List.getElem_mem _, rfl⟩) hx

/-- A slice of integers. -/
theorem Cl.ints {t e : TypeId} {k : IntKind} {cs : List Value} (hu : P.underlying t = some (.slice e)) (he : P.underlying e = some (.int k)) (hc : P.cellsOf e = 1) (h : Cl enc P W t cs) :
    ∃ A len cap zs, cs = [.slice A len cap] ∧ len ≤ cap ∧ cap ≤ maxLen ∧ cap * P.bytesOf e ≤ 140737488351232 ∧ RdI k W W.heap.size A len zs ∧ ∀ z ∈ zs, (Lit.int k z).wf = true := by
  obtain ⟨A, len, cap, rfl, hl, hm, hb, hel⟩ := h.slice hu (by omega)
  rcases Nat.eq_zero_or_pos len with h0 | hp
  · subst h0
    exact ⟨A, 0, cap, [], rfl, hl, hm, hb, RdI.nil _ _ _ _, by simp⟩
  · obtain ⟨b, off, rfl, hblt, hel⟩ := hel hp
    have key : ∀ i, i < len → ∃ z : Int, W.cell? ⟨b, off + i, none⟩ = some (.int k z) ∧ (Lit.int k z).wf = true := by
      intro i hi
      obtain ⟨c, hcl, hcell, hcc⟩ := hel i hi
      obtain ⟨z, rfl, hz⟩ := hcc.int he
      refine ⟨z, ?_, hz⟩
      have := hcell 0 (by omega)
      simpa [hc] using this
    obtain ⟨f, hf⟩ := Go.Deep.choose_lt (α := Int) key
    refine ⟨_, len, cap, (List.range len).map f, rfl, hl, hm, hb, ⟨by simp, fun _ => ⟨b, off, rfl, hblt, fun i hi => ?_⟩⟩, fun z hz => ?_⟩
    · rw [(hf i hi).1]; simp [at_, List.getD, hi]
    · obtain ⟨i, hi, rfl⟩ := List.mem_map.1 hz
      exact (hf i (by simpa using hi)).2
end
end Go.Proofs.YtjabeabbaambcaaDoor
