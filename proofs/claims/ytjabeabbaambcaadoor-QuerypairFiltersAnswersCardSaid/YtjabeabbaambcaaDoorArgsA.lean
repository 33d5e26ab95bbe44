/- Arguments that are addresses, prefixes, or slices of structs. -/
import Derived.Test.YtjabeabbaambcaaDoorCidr3
import Derived.Test.YtjabeabbaambcaaDoorTab
import Derived.Test.YtjabeabbaambcaaDoorArgs
namespace Go.Proofs.YtjabeabbaambcaaDoor
open Go.ChangeShapes Go.WideShapes Go.ChangeAt Go.RowKit

section
variable {H : Type} {enc : TypeId × Value → H} {P : Program} {W : World}
/-- A slice of structs: the list of its elements. -/
theorem Cl.rows {α : Type} {f : α → List Value} {G : α → Prop} {t e : TypeId} {size : Nat} {cs : List Value} (hu : P.underlying t = some (.slice e)) (hsz : P.cellsOf e = size) (hpos : 0 < size)
    (hop : ∀ c, Cl enc P W e c → ∃ x, c = f x ∧ G x) (hfl : ∀ x, G x → (f x).length = size) (h : Cl enc P W t cs) :
    ∃ A len cap, ∃ l : List α, cs = [.slice A len cap] ∧ len ≤ cap ∧ cap ≤ maxLen ∧ cap * P.bytesOf e ≤ 140737488351232 ∧ Rd W W.heap.size size A len (l.flatMap f) ∧ l.length = len ∧ ∀ x ∈ l, G x := by
  subst hsz
  obtain ⟨A, len, cap, rfl, hl, hm, hb, hel⟩ := h.slice hu hpos
  rcases Nat.eq_zero_or_pos len with h0 | hp
  · subst h0
    exact ⟨A, 0, cap, [], rfl, hl, hm, hb, Rd.nil _ _ _ _, rfl, by simp⟩
  · obtain ⟨b, off, rfl, hblt, hel⟩ := hel hp
    have key : ∀ i, i < len → ∃ x : α, G x ∧ ∀ j v, (f x)[j]? = some v → W.cell? ⟨b, off + i * P.cellsOf e + j, none⟩ = some v := by
      intro i hi
      obtain ⟨c, hcl, hcell, hcc⟩ := hel i hi
      obtain ⟨x, rfl, hg⟩ := hop c hcc
      refine ⟨x, hg, fun j v hv => ?_⟩
      rw [hcell j (by rw [← hcl]; exact (List.getElem?_eq_some_iff.1 hv).1), hv]
    obtain ⟨x0, _⟩ := key 0 hp
    have : Nonempty α := ⟨x0⟩
    obtain ⟨g, hg⟩ : ∃ g : Nat → α, ∀ i, i < len → G (g i) ∧ ∀ j v, (f (g i))[j]? = some v → W.cell? ⟨b, off + i * P.cellsOf e + j, none⟩ = some v :=
      ⟨fun i => if hi : i < len then Classical.choose (key i hi) else x0, fun i hi => by
        simp only [hi, dif_pos]
        exact Classical.choose_spec (key i hi)⟩
    have hGl : ∀ x ∈ (List.range len).map g, G x := by
      intro x hx
      obtain ⟨i, hi, rfl⟩ := List.mem_map.1 hx
      exact (hg i (by simpa using hi)).1
    have hfl2 : ∀ x ∈ (List.range len).map g, (f x).length = P.cellsOf e := fun x hx => hfl x (hGl x hx)
    have hlen : (((List.range len).map g).flatMap f).length = len * P.cellsOf e := by rw [flat_len _ hfl2]; simp
    refine ⟨_, len, cap, (List.range len).map g, rfl, hl, hm, hb, ⟨hlen, fun _ => ⟨b, off, rfl, hblt, fun i v hv => ?_⟩⟩, by simp, hGl⟩
    have hi : i < len * P.cellsOf e := by rw [← hlen]; exact (List.getElem?_eq_some_iff.1 hv).1
    have hk : i / P.cellsOf e < len := (Nat.div_lt_iff_lt_mul hpos).2 hi
    have hj : i % P.cellsOf e < P.cellsOf e := Nat.mod_lt _ hpos
    have hrow : ((List.range len).map g)[i / P.cellsOf e]? = some (g (i / P.cellsOf e)) := by simp [hk]
    have hcl := hfl _ (hg _ hk).1
    have hj' : (f (g (i / P.cellsOf e)))[i % P.cellsOf e]? = some ((f (g (i / P.cellsOf e)))[i % P.cellsOf e]'(by omega)) := List.getElem?_eq_getElem (by omega)
    have h1 := flat_get _ hfl2 _ _ hrow _ _ hj'
    have hi' : i / P.cellsOf e * P.cellsOf e + i % P.cellsOf e = i := by rw [Nat.mul_comm]; exact Nat.div_add_mod i _
    rw [hi'] at h1
    rw [hv] at h1
    obtain rfl := Option.some.inj h1
    have h2 := (hg _ hk).2 _ _ hj'
    rwa [Nat.add_assoc, hi'] at h2
theorem Arg.rows {α : Type} {f : α → List Value} {G : α → Prop} {t e : TypeId} {size : Nat} {v : Value} {d : DataW H} (hu : P.underlying t = some (.slice e)) (hsz : P.cellsOf e = size) (hpos : 0 < size)
    (hop : ∀ c, Cl enc P W e c → ∃ x, c = f x ∧ G x) (hfl : ∀ x, G x → (f x).length = size) (h : Arg enc P W t v d) :
    ∃ A len cap, ∃ l : List α, v = .slice A len cap ∧ len ≤ cap ∧ cap ≤ maxLen ∧ cap * P.bytesOf e ≤ 140737488351232 ∧ Rd W W.heap.size size A len (l.flatMap f) ∧ l.length = len ∧ ∀ x ∈ l, G x := by
  obtain ⟨A, len, cap, l, e, rest⟩ := h.cl.rows hu hsz hpos hop hfl
  obtain ⟨⟨base, hv⟩, _, _⟩ := h
  obtain ⟨A', len', cap', rfl⟩ := okWide_slice hu hv
  simp [Value.cells] at e
  obtain ⟨rfl, rfl, rfl⟩ := e
  exact ⟨A', len', cap', l, rfl, rest⟩
end

section
variable {H : Type} {enc : TypeId × Value → H} {W : World}
theorem Cl.addr {cs : List Value} (h : Cl enc Tryd.prog W 29 cs) : ∃ six bs, cs = addrC six bs ∧ GoodA bs := by
  have hsz := (h.struct Tryd.underlying29).1
  rw [show Tryd.prog.cellsOf 29 = 17 by kernel_rfl] at hsz
  obtain ⟨six, e3⟩ := (h.field Tryd.underlying29 0 4 0 1 (by kernel_rfl) (by kernel_rfl)).bool Tryd.underlying4
  have g2 := (h.field Tryd.underlying29 1 27 1 16 (by kernel_rfl) (by kernel_rfl)).array Tryd.underlying27
  rw [show Tryd.prog.cellsOf 27 = 16 by kernel_rfl, show Tryd.prog.cellsOf 5 = 1 by kernel_rfl] at g2
  obtain ⟨hl16, hel⟩ := g2
  have key : ∀ i, i < 16 → ∃ z : Int, ((cs.drop 1).take 16)[i]? = some (.int .u8 z) ∧ 0 ≤ z ∧ z ≤ 255 := by
    intro i hi
    obtain ⟨z, hz, hw⟩ := (hel i hi).int Tryd.underlying5
    refine ⟨z, ?_, bounds_u8 hw⟩
    rw [Nat.mul_one] at hz
    have := congrArg (fun l => l[0]?) hz
    simpa [List.getElem?_take, List.getElem?_drop] using this
  obtain ⟨f, hf⟩ := Go.Deep.choose_lt (α := Int) key
  have hbs : (cs.drop 1).take 16 = ((List.range 16).map f).map (Value.int .u8) := by
    apply List.ext_getElem?
    intro i
    rcases Nat.lt_or_ge i 16 with h | h
    · rw [(hf i h).1]; simp [h]
    · rw [List.getElem?_eq_none (by omega), List.getElem?_eq_none (by simp; omega)]
  refine ⟨six, (List.range 16).map f, ?_, by simp, fun x hx => ?_⟩
  · have s1 : cs = (cs.drop 0).take 1 ++ (cs.drop 1).take 16 := by
      rw [List.drop_zero]
      conv => lhs; rw [← List.take_append_drop 1 cs]
      congr 1
      rw [List.take_of_length_le (l := cs.drop 1) (by rw [List.length_drop]; omega)]
    rw [s1, e3, hbs]; rfl
  · obtain ⟨i, hi, rfl⟩ := List.mem_map.1 hx
    exact (hf i (by simpa using hi)).2
set_option maxRecDepth 20000 in
theorem Arg.addr {v : Value} {d : DataW H} (h : Arg enc Tryd.prog W 29 v d) : ∃ six bs, v = .agg (addrC six bs).toArray ∧ GoodA bs := by
  obtain ⟨⟨base, hv⟩, _, _⟩ := id h
  obtain ⟨cs, rfl, hsz⟩ := okWide_struct Tryd.underlying29 hv
  obtain ⟨six, bs, he, hg⟩ := Cl.addr (h.cl : Cl enc Tryd.prog W 29 cs.toList)
  exact ⟨six, bs, by rw [← he]; simp [Value.cells], hg⟩
theorem Cl.pfx {cs : List Value} (h : Cl enc Tryd.prog W 49 cs) : ∃ p : Pfx, cs = pfxC p ∧ GoodA p.2.1 ∧ -9223372036854775808 ≤ p.2.2 ∧ p.2.2 ≤ 9223372036854775807 := by
  have hsz := (h.struct Tryd.underlying49).1
  rw [show Tryd.prog.cellsOf 49 = 18 by kernel_rfl] at hsz
  obtain ⟨six, bs, e1, hg⟩ := (h.field Tryd.underlying49 0 29 0 17 (by kernel_rfl) (by kernel_rfl)).addr
  obtain ⟨n, e2, hn⟩ := (h.field Tryd.underlying49 1 3 17 1 (by kernel_rfl) (by kernel_rfl)).i64 Tryd.underlying3
  refine ⟨(six, bs, n), ?_, hg, hn⟩
  have s1 : cs = (cs.drop 0).take 17 ++ (cs.drop 17).take 1 := by
    rw [List.drop_zero]
    conv => lhs; rw [← List.take_append_drop 17 cs]
    congr 1
    rw [List.take_of_length_le (l := cs.drop 17) (by rw [List.length_drop]; omega)]
  rw [s1, e1, e2]; rfl
set_option maxRecDepth 20000 in
theorem Arg.pfx {v : Value} {d : DataW H} (h : Arg enc Tryd.prog W 49 v d) : ∃ p : Pfx, v = .agg (pfxC p).toArray ∧ GoodA p.2.1 ∧ -9223372036854775808 ≤ p.2.2 ∧ p.2.2 ≤ 9223372036854775807 := by
  obtain ⟨⟨base, hv⟩, _, _⟩ := id h
  obtain ⟨cs, rfl, hsz⟩ := okWide_struct Tryd.underlying49 hv
  obtain ⟨p, he, hg⟩ := Cl.pfx (h.cl : Cl enc Tryd.prog W 49 cs.toList)
  exact ⟨p, by rw [← he]; simp [Value.cells], hg⟩
end
end Go.Proofs.YtjabeabbaambcaaDoor
