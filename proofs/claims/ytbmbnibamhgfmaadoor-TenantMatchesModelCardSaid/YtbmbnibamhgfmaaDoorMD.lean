/- Several texts in one: Tab, PfxI, RowM, There, EqS, ArgsA, HelpP, ShellD. -/
import Derived.Test.YtbmbnibamhgfmaaDoorMB
import Derived.Test.YtbmbnibamhgfmaaDoorMC
import Derived.Test.YtbmbnibamhgfmaaDoorMA
import Derived.Great.BuildSlice
import Derived.Deep.MidRow
import Derived.Handed
import Derived.LaidLaws
import Derived.LaidMore
import Derived.Lay
import Derived.Stop.Joined
/- Tables: lists of rows of one size as they read in memory. -/
namespace Go.Proofs.YtbmbnibamhgfmaaDoor
open Go.RowKit

section
variable {α : Type} {f : α → List Value} {size : Nat}
theorem flat_len : ∀ (T : List α), (∀ x ∈ T, (f x).length = size) → (T.flatMap f).length = T.length * size
  | [], _ => by simp
  | x :: T, h => by
    rw [List.flatMap_cons, List.length_append, flat_len T (fun y hy => h y (List.mem_cons_of_mem _ hy)), h x List.mem_cons_self, List.length_cons, Nat.succ_mul, Nat.add_comm]
theorem flat_get : ∀ (T : List α), (∀ x ∈ T, (f x).length = size) → ∀ (k : Nat) (x : α), T[k]? = some x → ∀ (j : Nat) (v : Value), (f x)[j]? = some v → (T.flatMap f)[k * size + j]? = some v
  | [], _, k, x, h, _, _, _ => by simp at h
  | y :: T, hf, 0, x, h, j, v, hv => by
    obtain rfl : y = x := by simpa using h
    rw [List.flatMap_cons, Nat.zero_mul, Nat.zero_add, List.getElem?_append_left (List.getElem?_eq_some_iff.1 hv).1]
    exact hv
  | y :: T, hf, k + 1, x, h, j, v, hv => by
    have h1 := flat_get T (fun z hz => hf z (List.mem_cons_of_mem _ hz)) k x (by simpa using h) j v hv
    have h2 := hf y List.mem_cons_self
    rw [List.flatMap_cons, List.getElem?_append_right (by rw [h2, Nat.succ_mul]; omega), h2, show (k + 1) * size + j - size = k * size + j by rw [Nat.succ_mul]; omega]
    exact h1
theorem flat_one (T : List α) (h : ∀ x ∈ T, (f x).all (·.oneCell') = true) : ∀ u ∈ T.flatMap f, u.oneCell' = true := by
  intro u hu
  obtain ⟨x, hx, hm⟩ := List.mem_flatMap.1 hu
  exact List.all_eq_true.1 (h x hx) u hm
variable {w : World} {B n : Nat} {A : Option Addr} {T : List α}
theorem Rd.count (h : Rd w B size A n (T.flatMap f)) (hf : ∀ x ∈ T, (f x).length = size) (hs : 0 < size) : T.length = n := by
  have h1 := h.1
  rw [flat_len T hf] at h1
  exact Nat.eq_of_mul_eq_mul_right hs h1
theorem Rd.row (h : Rd w B size A n (T.flatMap f)) (hf : ∀ x ∈ T, (f x).length = size) (hs : 0 < size) {k : Nat} (hk : k < n) :
    ∃ b off x, A = some ⟨b, off, none⟩ ∧ b < B ∧ T[k]? = some x ∧ w.rangeAt b (off + k * size) (f x) := by
  have hl := h.count hf hs
  obtain ⟨b, off, e, hb, hc⟩ := h.2 (by omega)
  have hkT : k < T.length := by omega
  refine ⟨b, off, T[k], e, hb, List.getElem?_eq_getElem hkT, fun j v hj => ?_⟩
  have := hc _ v (flat_get T hf k T[k] (List.getElem?_eq_getElem hkT) j v hj)
  rw [← Nat.add_assoc] at this
  exact this
theorem Own.row {e : TypeId} {c : Nat} (h : Own w B e size A n c (T.flatMap f)) (hf : ∀ x ∈ T, (f x).length = size) (hs : 0 < size) {k : Nat} (hk : k < n) :
    ∃ b x, A = some ⟨b, 0, none⟩ ∧ b < w.heap.size ∧ T[k]? = some x ∧ w.rangeAt b (k * size) (f x) := by
  obtain ⟨g, rfl, _, hlt⟩ := h.form (by omega)
  obtain ⟨b, off, x, he, _, hT, hr⟩ := h.rd.row hf hs hk
  simp only [Option.some.injEq, Addr.mk.injEq] at he
  obtain ⟨rfl, rfl, _⟩ := he
  rw [Nat.zero_add] at hr
  exact ⟨_, x, rfl, hlt, hT, hr⟩
end
section
variable {w w' : World} {S : List Nat} {g o : Nat} {cs : List Value}
theorem range_ch (h : w.rangeAt g o cs) (hc : Ch S w w') (hg : g < w.heap.size) (hn : g ∉ S) : w'.rangeAt g o cs :=
  fun j v hj => (hc.cell (p := ⟨g, o + j, none⟩) hg hn).trans (h j v hj)
end
section
variable {P : Program} {ops : Array Oper} {rest : List Oper} {o : Oper} {a : Act} {w : World} {Q : Exit → Act → World → Prop}
/-- A slice literal of rows. -/
theorem wpList_buildRows (hg : o.guard = none) (t e : TypeId) (len : Nat) (parts : Array (Nat × Operand)) (ho : o.op = .buildSlice t len parts)
    (cells : List Value) (z : Value) (size bytes : Nat) (hu : P.underlying t = some (.slice e)) (hinfo : (P.info? e).map (fun i => (i.zero, i.size, i.bytes)) = some (some z, size, bytes)) (hsmall : len * size ≤ 1000) (hpos : 0 < len * size)
    (hf : Instr.fill (fun i => some (i * size, size)) ((Array.range (len * size)).map (z.cells[· % z.cells.size]!)) (parts.map fun (i, x) => (i, a.eval x)).toList = some cells.toArray)
    (h : wpList P ops Q rest (a.put o.dst (.slice (some ⟨w.heap.size, 0, none⟩) len len)) (w.alloc (.cells cells.toArray e))) : wpList P ops Q (o :: rest) a w := by
  obtain ⟨i, hi, hz, hsize, _⟩ := info_parts hinfo
  subst hsize
  exact wpList_buildSlice hg t e len parts ho cells.toArray i z hu hi hz (by omega) (by omega) hf h
end
end Go.Proofs.YtbmbnibamhgfmaaDoor

/- Tables of prefixes: the element's type, rows. -/
namespace Go.Proofs.YtbmbnibamhgfmaaDoor
open Go.RowKit

theorem pfx_infoZ : (Tryd.prog.info? 59).map (fun i => (i.zero, i.size, i.bytes)) = some (some (Value.agg #[.bool false, .int .u8 0, .int .u8 0, .int .u8 0, .int .u8 0, .int .u8 0, .int .u8 0, .int .u8 0, .int .u8 0, .int .u8 0, .int .u8 0, .int .u8 0, .int .u8 0, .int .u8 0, .int .u8 0, .int .u8 0, .int .u8 0, .int .i64 0]), 18, 32) := by kernel_rfl
theorem take_one {α : Type} {l : List α} {k : Nat} {x : α} (h : l[k]? = some x) : l.take (k + 1) = l.take k ++ [x] := by
  obtain ⟨hk, rfl⟩ := List.getElem?_eq_some_iff.1 h
  rw [List.take_succ_eq_append_getElem hk]
theorem blk_len18 : ∀ p ∈ blkT, (pfxC p).length = 18 := fun p hp => pfx_len (blk_good p hp).1
end Go.Proofs.YtbmbnibamhgfmaaDoor

/- A row (a struct, an array) stored into the middle of a block. -/
namespace Go.Proofs.YtbmbnibamhgfmaaDoor
open Go.RowKit

/-- A list with another laid over it from place o on. -/
def overL : List Value → Nat → List Value → List Value
  | cs, _, [] => cs
  | cs, o, v :: r => overL (cs.set o v) (o + 1) r
section
variable {P : Program} {w w' a : World} {g : Nat} {t : TypeId} {cs cs' : List Value} {S : List Nat}
theorem overL_len : ∀ (vs cs : List Value) (o : Nat), (overL cs o vs).length = cs.length
  | [], _, _ => rfl
  | v :: r, cs, o => by rw [overL, overL_len r]; simp
theorem Blk.setCells : ∀ (vs : List Value) (o : Nat) {w : World} {cs : List Value}, Blk w g t cs → Blk (w.setCells g o vs) g t (overL cs o vs)
  | [], _, _, _, h => h
  | v :: r, o, _, _, h => Blk.setCells r (o + 1) (h.set o v)
theorem Ch.setCells (hg : g ∈ S ∨ a.heap.size ≤ g) : ∀ (vs : List Value) (o : Nat) {w : World}, Ch S a w → Ch S a (w.setCells g o vs)
  | [], _, _, h => h
  | v :: r, o, _, h => Ch.setCells hg r (o + 1) (h.setCell (p := ⟨g, o, none⟩) hg v)
theorem size_setCells : ∀ (vs : List Value) (o : Nat) (w : World), (w.setCells g o vs).heap.size = w.heap.size
  | [], _, _ => rfl
  | v :: r, o, w => by rw [World.setCells, size_setCells r]; simp
theorem Blk.there (h : Blk w g t cs) (o n : Nat) (hf : o + n ≤ cs.length) : w.there g o n := fun j hj =>
  ⟨by rw [h.cell, List.getElem?_eq_getElem (by omega)]; rfl, h.frozen _⟩

variable {ops : Array Oper} {rest : List Oper} {o : Oper} {ac : Act} {Q : Exit → Act → World → Prop} {K : Act → World → Prop}
theorem wp_storeM (ty : TypeId) (x y : Operand) (ho : o.op = .store ty x y)
    (g p : Nat) (t : TypeId) (cs vs cs' : List Value) (hx : ac.eval x = .pointer (some ⟨g, p, none⟩)) (hy : ac.eval y = .agg vs.toArray) (hB : Blk w g t cs) (he : overL cs p vs = cs') (hf : p + vs.length ≤ cs.length)
    (hi : (P.info? ty).map (·.size) = some vs.length) (h1 : vs.all (·.oneCell') = true)
    (h : ∀ w', Blk w' g t cs' → Ch [g] w w' → w'.heap.size = w.heap.size → K (ac.put o.dst undef) w') : o.wp P ac w K Q :=
  wp_store_mid ty x y ho g p vs.toArray hx hy (hB.there p _ (by simpa using hf)) (by simpa using hi) (by simpa using h1)
    (by rw [List.toList_toArray]; exact h _ (he ▸ hB.setCells vs p) ((Ch.refl _ _).setCells (.inl (by simp)) vs p) (size_setCells ..))
theorem wpList_storeM (hgd : o.guard = none) (ty : TypeId) (x y : Operand) (ho : o.op = .store ty x y)
    (g p : Nat) (t : TypeId) (cs vs cs' : List Value) (hx : ac.eval x = .pointer (some ⟨g, p, none⟩)) (hy : ac.eval y = .agg vs.toArray) (hB : Blk w g t cs) (he : overL cs p vs = cs') (hf : p + vs.length ≤ cs.length)
    (hi : (P.info? ty).map (·.size) = some vs.length) (h1 : vs.all (·.oneCell') = true)
    (h : ∀ w', Blk w' g t cs' → Ch [g] w w' → w'.heap.size = w.heap.size → wpList P ops Q rest (ac.put o.dst undef) w') : wpList P ops Q (o :: rest) ac w :=
  wpList_plain hgd fun _ hK => wp_storeM ty x y ho g p t cs vs cs' hx hy hB he hf hi h1 fun w' h1 h2 h3 => hK _ _ (h w' h1 h2 h3)
end
end Go.Proofs.YtbmbnibamhgfmaaDoor

/- A row stored anywhere in a block that may be written; a slice of rows of the call's own may be written. -/
namespace Go.Proofs.YtbmbnibamhgfmaaDoor
open Go.RowKit

section
variable {P : Program} {ops : Array Oper} {rest : List Oper} {o : Oper} {ac : Act} {w : World} {Q : Exit → Act → World → Prop}
theorem wpList_storeT (hgd : o.guard = none) (ty : TypeId) (x y : Operand) (ho : o.op = .store ty x y)
    (g p : Nat) (vs : List Value) (hx : ac.eval x = .pointer (some ⟨g, p, none⟩)) (hy : ac.eval y = .agg vs.toArray) (ht : w.there g p vs.length)
    (hi : (P.info? ty).map (·.size) = some vs.length) (h1 : vs.all (·.oneCell') = true)
    (h : ∀ w', Ch [g] w w' → (∀ p' n', w.there g p' n' → w'.there g p' n') → wpList P ops Q rest (ac.put o.dst undef) w') : wpList P ops Q (o :: rest) ac w :=
  wpList_store_mid hgd ty x y ho g p vs.toArray hx hy (by simpa using ht) (by simpa using hi) (by simpa using h1)
    (by rw [List.toList_toArray]; exact h _ ((Ch.refl _ _).setCells (.inl (by simp)) vs p) (fun _ _ hh => World.there_setCells hh g p vs))
theorem there_ch {w' : World} {S : List Nat} {g p n : Nat} (h : w.there g p n) (hc : Ch S w w') (hg : g < w.heap.size) (hn : g ∉ S) : w'.there g p n := fun j hj =>
  ⟨by rw [hc.cell (p := ⟨g, p + j, none⟩) hg hn]; exact (h j hj).1, by rw [hc.frozen (p := ⟨g, p + j, none⟩) hg hn]; exact (h j hj).2⟩
theorem there_sub {g p n q m : Nat} (h : w.there g p n) (h1 : p ≤ q) (h2 : q + m ≤ p + n) : w.there g q m := fun j hj => by
  have := h (q - p + j) (by omega)
  rwa [show p + (q - p + j) = q + j by omega] at this
theorem Own.there {B : Nat} {e : TypeId} {size n c g : Nat} {xs : List Value} (h : Own w B e size (some ⟨g, 0, none⟩) n c xs) : w.there g 0 (n * size) := fun j hj => by
  refine ⟨?_, ?_⟩
  · obtain ⟨v, hv⟩ : ∃ v, xs[j]? = some v := ⟨_, List.getElem?_eq_getElem (by rw [h.1]; exact hj)⟩
    rcases Nat.eq_zero_or_pos n with h0 | hp
    · subst h0; omega
    · obtain ⟨b, off, he, _, hc⟩ := h.rd.2 hp
      simp only [Option.some.injEq, Addr.mk.injEq] at he
      obtain ⟨rfl, rfl, _⟩ := he
      rw [hc j v hv]; rfl
  · rcases h.2 with ⟨h0, _⟩ | ⟨b, cap, cur, hv, _, hh, _⟩
    · cases h0
    · simp only [Value.slice.injEq, Option.some.injEq, Addr.mk.injEq] at hv
      obtain ⟨⟨rfl, _⟩, _, _⟩ := hv
      simp [World.frozen?, hh]
theorem Rd.rangeE {α : Type} {f : α → List Value} {size B n : Nat} {A : Option Addr} {T : List α} (h : Rd w B size A n (T.flatMap f)) (hf : ∀ x ∈ T, (f x).length = size) (hs : 0 < size) :
    T.length = n ∧ (0 < n → ∃ b off, A = some ⟨b, off, none⟩ ∧ b < B ∧ ∀ (k : Nat) (x : α), T[k]? = some x → w.rangeAt b (off + k * size) (f x)) := by
  refine ⟨h.count hf hs, fun hp => ?_⟩
  obtain ⟨b, off, e, hb, hc⟩ := h.2 hp
  refine ⟨b, off, e, hb, fun k x hk j v hj => ?_⟩
  have := hc _ v (flat_get T hf k x hk j v hj)
  rwa [← Nat.add_assoc] at this
end
end Go.Proofs.YtbmbnibamhgfmaaDoor

/- Prefixes and policy rows compared. -/
namespace Go.Proofs.YtbmbnibamhgfmaaDoor
open Go.RowKit

set_option maxRecDepth 100000 in
set_option maxHeartbeats 4000000 in
theorem pfx_eq0 (six six' : Bool) (b0 b1 b2 b3 b4 b5 b6 b7 b8 b9 b10 b11 b12 b13 b14 b15 x0 c0 c1 c2 c3 c4 c5 c6 c7 c8 c9 c10 c11 c12 c13 c14 c15 y0 : Int) (w : World) :
    (Op.equalIn 10000 59 (.agg #[.bool six, .int .u8 b0, .int .u8 b1, .int .u8 b2, .int .u8 b3, .int .u8 b4, .int .u8 b5, .int .u8 b6, .int .u8 b7, .int .u8 b8, .int .u8 b9, .int .u8 b10, .int .u8 b11, .int .u8 b12, .int .u8 b13, .int .u8 b14, .int .u8 b15, .int .i64 x0]) (.agg #[.bool six', .int .u8 c0, .int .u8 c1, .int .u8 c2, .int .u8 c3, .int .u8 c4, .int .u8 c5, .int .u8 c6, .int .u8 c7, .int .u8 c8, .int .u8 c9, .int .u8 c10, .int .u8 c11, .int .u8 c12, .int .u8 c13, .int .u8 c14, .int .u8 c15, .int .i64 y0])).run Tryd.prog w = .ok (six == six' && decide (b0 = c0 ∧ b1 = c1 ∧ b2 = c2 ∧ b3 = c3 ∧ b4 = c4 ∧ b5 = c5 ∧ b6 = c6 ∧ b7 = c7 ∧ b8 = c8 ∧ b9 = c9 ∧ b10 = c10 ∧ b11 = c11 ∧ b12 = c12 ∧ b13 = c13 ∧ b14 = c14 ∧ b15 = c15 ∧ x0 = y0)) w := by
  go_simp
  obtain ⟨i, hi, hc⟩ : ∃ i, Tryd.prog.info? 5 = some i ∧ Tryd.prog.cellsOf 5 = 1 := ⟨_, rfl, by kernel_rfl⟩
  rw [run_equalIn_array _ _ _ _ Tryd.underlying55 hi, hc]
  simp only [show List.range 16 = [0, 1, 2, 3, 4, 5, 6, 7, 8, 9, 10, 11, 12, 13, 14, 15] from rfl, Op.eqItems]
  go_simp
  have h (p : Prop) [Decidable p] (x : Bool) : (if p then Result.ok x w else Result.ok false w : Result Bool) = Result.ok (decide p && x) w := by
    by_cases hp : p <;> simp [hp]
  simp only [h, Bool.and_true]
  rfl
theorem pfx_eqD (p q : Pfx) (hp : p.2.1.length = 16) (hq : q.2.1.length = 16) (w : World) : (Op.equalIn 10000 59 (.agg (pfxC p).toArray) (.agg (pfxC q).toArray)).run Tryd.prog w = .ok (decide (p = q)) w := by
  obtain ⟨s, b, n⟩ := p
  obtain ⟨s', c, m⟩ := q
  obtain ⟨b0, b1, b2, b3, b4, b5, b6, b7, b8, b9, b10, b11, b12, b13, b14, b15, rfl⟩ := len16 hp
  obtain ⟨c0, c1, c2, c3, c4, c5, c6, c7, c8, c9, c10, c11, c12, c13, c14, c15, rfl⟩ := len16 hq
  have h := pfx_eq0 s s' b0 b1 b2 b3 b4 b5 b6 b7 b8 b9 b10 b11 b12 b13 b14 b15 n c0 c1 c2 c3 c4 c5 c6 c7 c8 c9 c10 c11 c12 c13 c14 c15 m w
  have e : decide ((s, [b0, b1, b2, b3, b4, b5, b6, b7, b8, b9, b10, b11, b12, b13, b14, b15], n) = (s', [c0, c1, c2, c3, c4, c5, c6, c7, c8, c9, c10, c11, c12, c13, c14, c15], m)) = (s == s' && decide (b0 = c0 ∧ b1 = c1 ∧ b2 = c2 ∧ b3 = c3 ∧ b4 = c4 ∧ b5 = c5 ∧ b6 = c6 ∧ b7 = c7 ∧ b8 = c8 ∧ b9 = c9 ∧ b10 = c10 ∧ b11 = c11 ∧ b12 = c12 ∧ b13 = c13 ∧ b14 = c14 ∧ b15 = c15 ∧ n = m)) := by
    rw [Bool.eq_iff_iff]
    simp only [decide_eq_true_eq, Prod.mk.injEq, List.cons.injEq, and_true, Bool.and_eq_true, beq_iff_eq, and_assoc]
  rw [e]
  exact h
theorem adr_same (a : Bool × List Int) (h : a.2.length = 16) (w : World) : (Op.equalIn 10000 57 (.agg (addrC a.1 a.2).toArray) (.agg (addrC a.1 a.2).toArray)).run Tryd.prog w = .ok true w := by
  rw [addr_eq a.1 a.1 a.2 a.2 h h]; simp
theorem pfx_same (p : Pfx) (h : p.2.1.length = 16) (w : World) : (Op.equalIn 10000 59 (.agg (pfxC p).toArray) (.agg (pfxC p).toArray)).run Tryd.prog w = .ok true w := by
  rw [pfx_eqD p p h h]; simp
end Go.Proofs.YtbmbnibamhgfmaaDoor

/- Arguments that are addresses, prefixes, or slices of structs. -/
namespace Go.Proofs.YtbmbnibamhgfmaaDoor
open Go.ChangeShapes Go.WideShapes Go.ChangeAt Go.RowKit

section
variable {H : Type} {enc : TypeId × Value → H} {P : Program} {W : World}
/-- A slice of structs: the list of its elements. -/
theorem Cl.rows {α : Type} {f : α → List Value} {G : α → Prop} {t e : TypeId} {size : Nat} {cs : List Value} (hu : P.underlying t = some (.slice e)) (hsz : P.cellsOf e = size) (hpos : 0 < size)
    (hop : ∀ c, Cl enc P W e c → ∃ x, c = f x ∧ G x) (hfl : ∀ x, G x → (f x).length = size) (h : Cl enc P W t cs) :
    ∃ A len cap, ∃ l : List α, cs = [.slice A len cap] ∧ len ≤ cap ∧ cap ≤ maxLen ∧ cap * P.bytesOf e ≤ 140737488351232 ∧ Rd W W.heap.size size A len (l.flatMap f) ∧ l.length = len ∧ ∀ x ∈ l, G x := by
  subst hsz
  obtain ⟨A, len, cap, rfl, hl, hm, hb, hel⟩ := h.slice hu hpos
  rcases Nat.eq_zero_or_pos len with h0 | hp
  · subst h0
    exact ⟨A, 0, cap, [], rfl, hl, hm, hb, Rd.nil _ _ _ _, rfl, by simp⟩
  · obtain ⟨b, off, rfl, hblt, hel⟩ := hel hp
    have key : ∀ i, i < len → ∃ x : α, G x ∧ ∀ j v, (f x)[j]? = some v → W.cell? ⟨b, off + i * P.cellsOf e + j, none⟩ = some v := by
      intro i hi
      obtain ⟨c, hcl, hcell, hcc⟩ := hel i hi
      obtain ⟨x, rfl, hg⟩ := hop c hcc
      refine ⟨x, hg, fun j v hv => ?_⟩
      rw [hcell j (by rw [← hcl]; exact (List.getElem?_eq_some_iff.1 hv).1), hv]
    obtain ⟨x0, _⟩ := key 0 hp
    have : Nonempty α := ⟨x0⟩
    obtain ⟨g, hg⟩ : ∃ g : Nat → α, ∀ i, i < len → G (g i) ∧ ∀ j v, (f (g i))[j]? = some v → W.cell? ⟨b, off + i * P.cellsOf e + j, none⟩ = some v :=
      ⟨fun i => if hi : i < len then Classical.choose (key i hi) else x0, fun i hi => by
        simp only [hi, dif_pos]
        exact Classical.choose_spec (key i hi)⟩
    have hGl : ∀ x ∈ (List.range len).map g, G x := by
      intro x hx
      obtain ⟨i, hi, rfl⟩ := List.mem_map.1 hx
      exact (hg i (by simpa using hi)).1
    have hfl2 : ∀ x ∈ (List.range len).map g, (f x).length = P.cellsOf e := fun x hx => hfl x (hGl x hx)
    have hlen : (((List.range len).map g).flatMap f).length = len * P.cellsOf e := by rw [flat_len _ hfl2]; simp
    refine ⟨_, len, cap, (List.range len).map g, rfl, hl, hm, hb, ⟨hlen, fun _ => ⟨b, off, rfl, hblt, fun i v hv => ?_⟩⟩, by simp, hGl⟩
    have hi : i < len * P.cellsOf e := by rw [← hlen]; exact (List.getElem?_eq_some_iff.1 hv).1
    have hk : i / P.cellsOf e < len := (Nat.div_lt_iff_lt_mul hpos).2 hi
    have hj : i % P.cellsOf e < P.cellsOf e := Nat.mod_lt _ hpos
    have hrow : ((List.range len).map g)[i / P.cellsOf e]? = some (g (i / P.cellsOf e)) := by simp [hk]
    have hcl := hfl _ (hg _ hk).1
    have hj' : (f (g (i / P.cellsOf e)))[i % P.cellsOf e]? = some ((f (g (i / P.cellsOf e)))[i % P.cellsOf e]'(by omega)) := List.getElem?_eq_getElem (by omega)
    have h1 := flat_get _ hfl2 _ _ hrow _ _ hj'
    have hi' : i / P.cellsOf e * P.cellsOf e + i % P.cellsOf e = i := by rw [Nat.mul_comm]; exact Nat.div_add_mod i _
    rw [hi'] at h1
    rw [hv] at h1
    obtain rfl := Option.some.inj h1
    have h2 := (hg _ hk).2 _ _ hj'
    rwa [Nat.add_assoc, hi'] at h2
theorem Arg.rows {α : Type} {f : α → List Value} {G : α → Prop} {t e : TypeId} {size : Nat} {v : Value} {d : DataW H} (hu : P.underlying t = some (.slice e)) (hsz : P.cellsOf e = size) (hpos : 0 < size)
    (hop : ∀ c, Cl enc P W e c → ∃ x, c = f x ∧ G x) (hfl : ∀ x, G x → (f x).length = size) (h : Arg enc P W t v d) :
    ∃ A len cap, ∃ l : List α, v = .slice A len cap ∧ len ≤ cap ∧ cap ≤ maxLen ∧ cap * P.bytesOf e ≤ 140737488351232 ∧ Rd W W.heap.size size A len (l.flatMap f) ∧ l.length = len ∧ ∀ x ∈ l, G x := by
  obtain ⟨A, len, cap, l, e, rest⟩ := h.cl.rows hu hsz hpos hop hfl
  obtain ⟨⟨base, hv⟩, _, _⟩ := h
  obtain ⟨A', len', cap', rfl⟩ := okWide_slice hu hv
  simp [Value.cells] at e
  obtain ⟨rfl, rfl, rfl⟩ := e
  exact ⟨A', len', cap', l, rfl, rest⟩
end

section
variable {H : Type} {enc : TypeId × Value → H} {W : World}
theorem Cl.addr {cs : List Value} (h : Cl enc Tryd.prog W 57 cs) : ∃ six bs, cs = addrC six bs ∧ GoodA bs := by
  have hsz := (h.struct Tryd.underlying57).1
  rw [show Tryd.prog.cellsOf 57 = 17 by kernel_rfl] at hsz
  obtain ⟨six, e3⟩ := (h.field Tryd.underlying57 0 4 0 1 (by kernel_rfl) (by kernel_rfl)).bool Tryd.underlying4
  have g2 := (h.field Tryd.underlying57 1 55 1 16 (by kernel_rfl) (by kernel_rfl)).array Tryd.underlying55
  rw [show Tryd.prog.cellsOf 55 = 16 by kernel_rfl, show Tryd.prog.cellsOf 5 = 1 by kernel_rfl] at g2
  obtain ⟨hl16, hel⟩ := g2
  have key : ∀ i, i < 16 → ∃ z : Int, ((cs.drop 1).take 16)[i]? = some (.int .u8 z) ∧ 0 ≤ z ∧ z ≤ 255 := by
    intro i hi
    obtain ⟨z, hz, hw⟩ := (hel i hi).int Tryd.underlying5
    refine ⟨z, ?_, bounds_u8 hw⟩
    rw [Nat.mul_one] at hz
    have := congrArg (fun l => l[0]?) hz
    simpa [List.getElem?_take, List.getElem?_drop] using this
  obtain ⟨f, hf⟩ := Go.Deep.choose_lt (α := Int) key
  have hbs : (cs.drop 1).take 16 = ((List.range 16).map f).map (Value.int .u8) := by
    apply List.ext_getElem?
    intro i
    rcases Nat.lt_or_ge i 16 with h | h
    · rw [(hf i h).1]; simp [h]
    · rw [List.getElem?_eq_none (by omega), List.getElem?_eq_none (by simp; omega)]
  refine ⟨six, (List.range 16).map f, ?_, by simp, fun x hx => ?_⟩
  · have s1 : cs = (cs.drop 0).take 1 ++ (cs.drop 1).take 16 := by
      rw [List.drop_zero]
      conv => lhs; rw [← List.take_append_drop 1 cs]
      congr 1
      rw [List.take_of_length_le (l := cs.drop 1) (by rw [List.length_drop]; omega)]
    rw [s1, e3, hbs]; rfl
  · obtain ⟨i, hi, rfl⟩ := List.mem_map.1 hx
    exact (hf i (by simpa using hi)).2
set_option maxRecDepth 20000 in
theorem Arg.addr {v : Value} {d : DataW H} (h : Arg enc Tryd.prog W 57 v d) : ∃ six bs, v = .agg (addrC six bs).toArray ∧ GoodA bs := by
  obtain ⟨⟨base, hv⟩, _, _⟩ := id h
  obtain ⟨cs, rfl, hsz⟩ := okWide_struct Tryd.underlying57 hv
  obtain ⟨six, bs, he, hg⟩ := Cl.addr (h.cl : Cl enc Tryd.prog W 57 cs.toList)
  exact ⟨six, bs, by rw [← he]; simp [Value.cells], hg⟩
theorem Cl.pfx {cs : List Value} (h : Cl enc Tryd.prog W 59 cs) : ∃ p : Pfx, cs = pfxC p ∧ GoodA p.2.1 ∧ -9223372036854775808 ≤ p.2.2 ∧ p.2.2 ≤ 9223372036854775807 := by
  have hsz := (h.struct Tryd.underlying59).1
  rw [show Tryd.prog.cellsOf 59 = 18 by kernel_rfl] at hsz
  obtain ⟨six, bs, e1, hg⟩ := (h.field Tryd.underlying59 0 57 0 17 (by kernel_rfl) (by kernel_rfl)).addr
  obtain ⟨n, e2, hn⟩ := (h.field Tryd.underlying59 1 3 17 1 (by kernel_rfl) (by kernel_rfl)).i64 Tryd.underlying3
  refine ⟨(six, bs, n), ?_, hg, hn⟩
  have s1 : cs = (cs.drop 0).take 17 ++ (cs.drop 17).take 1 := by
    rw [List.drop_zero]
    conv => lhs; rw [← List.take_append_drop 17 cs]
    congr 1
    rw [List.take_of_length_le (l := cs.drop 17) (by rw [List.length_drop]; omega)]
  rw [s1, e1, e2]; rfl
set_option maxRecDepth 20000 in
theorem Arg.pfx {v : Value} {d : DataW H} (h : Arg enc Tryd.prog W 59 v d) : ∃ p : Pfx, v = .agg (pfxC p).toArray ∧ GoodA p.2.1 ∧ -9223372036854775808 ≤ p.2.2 ∧ p.2.2 ≤ 9223372036854775807 := by
  obtain ⟨⟨base, hv⟩, _, _⟩ := id h
  obtain ⟨cs, rfl, hsz⟩ := okWide_struct Tryd.underlying59 hv
  obtain ⟨p, he, hg⟩ := Cl.pfx (h.cl : Cl enc Tryd.prog W 59 cs.toList)
  exact ⟨p, by rw [← he]; simp [Value.cells], hg⟩
end
end Go.Proofs.YtbmbnibamhgfmaaDoor

/- ginnelhelp.Equal, Overwrite over api.Prefix. -/
namespace Go.Proofs.YtbmbnibamhgfmaaDoor
open Go.RowKit

end Go.Proofs.YtbmbnibamhgfmaaDoor

/- The step from a walk to a row that lists package-level variables: as law_shell; the walk is told that the variables hold what the row lists. -/
namespace Go.Proofs.YtbmbnibamhgfmaaDoor
open Go.ChangeShapes Go.WideShapes Go.ChangeAt Go.RowKit

theorem law_shell_door {H : Type} {enc : TypeId × Value → H} {C : Checked} {os : Os} (laid : List (String × DataW Unit)) (f : FuncId) (fn : Func) (s : ChangeSpec) (tb : TypeId) (own : ownKnob C.prog.godebug = none) (started : os.Started) (noInit : C.prog.inits.idxOf? f = none)
    (hfn : C.prog.funcs[f]? = some fn) (hl : laidOutB C.prog = true) (hp : fn.params.toList.all (fun t => C.prog.readableRec t && decide (t < C.prog.types.size)) = true)
    (hres : fn.resultTypes = #[tb]) (hbool : C.prog.underlying tb = some .bool) (hvars : s.vars = [])
    (hs : ∀ ds : List (DataW H), ds.length = fn.params.size → s.fn H ds = { results := [.lit (.bool true)], args := ds })
    (witness : ∃ (w : World) (tape : Tape) (i : Input), w.os = os ∧ (w.forCall tape i).Shaped C.prog ∧ i.vars = [] ∧ Input.okWide C.prog (w.forCall tape i) .any w.heap.size f i ∧
      ((s.pre enc C.prog fn [] false (w.forCall tape i).memory i.args ∧ laidMetH C.prog laid (w.forCall tape i).memory) ∧ sizedMet enc C.prog fn (OpenSpec.ofChange s) false (w.forCall tape i).memory i.args) ∧ ({} : Assume).holds C.prog (lone (Frame.enter C.prog f i.args .normal) [] (w.forCall tape i)))
    (walk : ∀ (W : World) (args : Array Value) (ds : List (DataW H)), laidMetH C.prog laid W → Came enc C.prog fn W args ds → Calls C.prog f args W fun e W' => e = .returned (.bool true) ∧ Below W.heap.size W W') :
    ReturnsInHanded {} C os f .any (fun w args => (s.pre enc C.prog fn [] false w args ∧ laidMetH C.prog laid w) ∧ sizedMet enc C.prog fn (OpenSpec.ofChange s) false w args) (s.post enc C.prog fn false true false false) := by
  refine returnsInHanded_of_change_and (X := fun w _ => laidMetH C.prog laid w) (fun _ _ _ hh h => h.of_heap hh) own started noInit hfn witness ?_
  intro W base args ds gs before hval hW _ hsz hL _
  have hW' := hW
  obtain ⟨p, q, hA, hV, rfl, _, _⟩ := hW
  rw [hvars] at hV
  have hgs : gs = [] ∧ q = [] := by
    cases gs with
    | nil => exact ⟨rfl, hV⟩
    | cons g gs => exact hV.elim
  obtain ⟨rfl, rfl⟩ := hgs
  have hpl : ∀ t ∈ fn.params.toList, C.prog.readableRec t = true ∧ t < C.prog.types.size := by
    intro t ht
    have := List.all_eq_true.1 hp t ht
    simpa using this
  have hlen : ds.length = fn.params.size := by simpa using trodAll_len hA
  have hz : (DataW.weightsEach C.prog fn.params.toList ds).all (· ≤ reachBytes) = true := by
    have e : s.plain.varTypes C.prog = [] := by
      simp [DataSpec.varTypes, ChangeSpec.plain, hvars]
    rw [e, List.append_nil, List.append_nil] at hsz
    exact hsz
  refine (walk W args ds hL ⟨⟨base, hval⟩, ⟨p, hA⟩, hz⟩).mono fun e W' ⟨he, bel⟩ => ?_
  subst he
  have hfn' : s.fn H (ds ++ []) = { results := [.lit (.bool true)], args := ds } := by rw [List.append_nil]; exact hs ds hlen
  refine ⟨_, rfl, ds, [], p ++ [], [], p, [], hW', ?_, ?_, ?_, bel.frame _, fun h => by cases h⟩
  · rw [hfn', hres]; exact trodAll_mk1 (shut_bool hbool _)
  · rw [hfn']; exact trodAll_below hl bel hpl hA
  · rw [hfn', hvars]; rfl

/-- The witness: a world in which the listed variables are laid. -/
theorem door_witness {H : Type} {enc : TypeId × Value → H} {C : Checked} {os : Os} {laid : List (String × DataW Unit)} {f : FuncId} {fn : Func} {s : ChangeSpec} (args : Array Value) (fuel : Nat)
    (hsh : ((World.laidAll C.prog os laid).forCall (fun _ _ => 0) ⟨#[], args, []⟩).Shaped C.prog)
    (hok : Input.okWideB C.prog ((World.laidAll C.prog os laid).forCall (fun _ _ => 0) ⟨#[], args, []⟩) f ⟨#[], args, []⟩ = true)
    (hpre : s.preB enc C.prog fn [] false ((World.laidAll C.prog os laid).forCall (fun _ _ => 0) ⟨#[], args, []⟩).memory args fuel = true)
    (hsz : s.sizedB enc C.prog fn false ((World.laidAll C.prog os laid).forCall (fun _ _ => 0) ⟨#[], args, []⟩).memory args fuel = true)
    (hx : laidMetH C.prog laid ((World.laidAll C.prog os laid).forCall (fun _ _ => 0) ⟨#[], args, []⟩).memory) :
    ∃ (w : World) (tape : Tape) (i : Input), w.os = os ∧ (w.forCall tape i).Shaped C.prog ∧ i.vars = [] ∧ Input.okWide C.prog (w.forCall tape i) .any w.heap.size f i ∧
      ((s.pre enc C.prog fn [] false (w.forCall tape i).memory i.args ∧ laidMetH C.prog laid (w.forCall tape i).memory) ∧ sizedMet enc C.prog fn (OpenSpec.ofChange s) false (w.forCall tape i).memory i.args) ∧ ({} : Assume).holds C.prog (lone (Frame.enter C.prog f i.args .normal) [] (w.forCall tape i)) :=
  ChangeSpec.witness_shaped (X := fun w _ => laidMetH C.prog laid w) false (World.laidAll C.prog os laid) args fuel (World.laidAll_os _ _ _) hsh hok hpre hsz hx
end Go.Proofs.YtbmbnibamhgfmaaDoor
