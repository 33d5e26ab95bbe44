/- Words for memory, over no program: what has changed between two worlds, a block known whole, a slice as it reads, a slice of the call's own and append onto it. -/
import Derived.Test.YtjabeabbaambcaaDoorBase
import Derived.Maps.AppendAt
import Derived.Deep.AppendLies
import Derived.RegionTactic
namespace Go.Proofs.YtjabeabbaambcaaDoor
open Go.RowKit

/-! ### What has changed: of the blocks that were there, those of the list S alone -/

structure Ch (S : List Nat) (w w' : World) : Prop where
  os : w'.os = w.os
  tape : w'.tape = w.tape
  output : w'.output = w.output
  size : w.heap.size ≤ w'.heap.size
  block : ∀ k, k < w.heap.size → k ∉ S → w'.heap[k]? = w.heap[k]?

section
variable {S T : List Nat} {a w w' w'' : World}
theorem Ch.refl (S : List Nat) (w : World) : Ch S w w := ⟨rfl, rfl, rfl, Nat.le_refl _, fun _ _ _ => rfl⟩
theorem Ch.trans (h : Ch S w w') (k : Ch S w' w'') : Ch S w w'' :=
  ⟨k.os.trans h.os, k.tape.trans h.tape, k.output.trans h.output, Nat.le_trans h.size k.size, fun i hi hn => (k.block i (Nat.lt_of_lt_of_le hi h.size) hn).trans (h.block i hi hn)⟩
theorem Ch.mono (h : Ch S w w') (hs : ∀ k, k < w.heap.size → k ∈ S → k ∈ T) : Ch T w w' :=
  ⟨h.os, h.tape, h.output, h.size, fun i hi hn => h.block i hi (fun hm => hn (hs i hi hm))⟩
/-- What the second step changes lies in S or is new. -/
theorem Ch.step (h : Ch S w w') (k : Ch T w' w'') (hs : ∀ i, i ∈ T → i ∈ S ∨ w.heap.size ≤ i) : Ch S w w'' :=
  ⟨k.os.trans h.os, k.tape.trans h.tape, k.output.trans h.output, Nat.le_trans h.size k.size, fun i hi hn =>
    (k.block i (Nat.lt_of_lt_of_le hi h.size) (fun hm => by rcases hs i hm with h1 | h1; exact hn h1; omega)).trans (h.block i hi hn)⟩
theorem Ch.drew (h : Ch S a w) : Ch S a w.drew := ⟨h.os, h.tape, h.output, h.size, h.block⟩
theorem Ch.drewN (h : Ch S a w) (n : Nat) : Ch S a (w.drewN n) := ⟨h.os, h.tape, h.output, h.size, h.block⟩
theorem Ch.alloc (h : Ch S a w) (o : Obj) : Ch S a (w.alloc o) :=
  ⟨h.os, h.tape, h.output, Nat.le_trans h.size (by simp), fun i hi hn => (Below.heap_alloc w o i (Nat.lt_of_lt_of_le hi h.size)).trans (h.block i hi hn)⟩
theorem Ch.setCell (h : Ch S a w) {p : Addr} (hp : p.block ∈ S ∨ a.heap.size ≤ p.block) (u : Value) : Ch S a (w.setCell p u) :=
  ⟨h.os, h.tape, h.output, by simpa using h.size, fun i hi hn => (Below.heap_setCell w p u i (by rintro rfl; rcases hp with h1 | h1; exact hn h1; omega)).trans (h.block i hi hn)⟩
theorem Ch.below {B : Nat} (h : Ch S w w') (hs : ∀ k, k ∈ S → B ≤ k) (hB : B ≤ w.heap.size) : Below B w w' :=
  ⟨h.os, h.tape, h.output, h.size, fun i hi => h.block i (by omega) (fun hm => by have := hs i hm; omega)⟩
theorem Below.drewN {B : Nat} (h : Below B a w) (n : Nat) : Below B a (w.drewN n) := ⟨h.os, h.tape, h.output, h.size, h.block⟩
theorem Below.ch {B : Nat} (hb : Below B a w) (h : Ch S w w') (hs : ∀ k, k ∈ S → B ≤ k) (hB : B ≤ w.heap.size) : Below B a w' := hb.trans (h.below hs hB)
theorem Ch.of_below (h : Below w.heap.size w w') (S : List Nat) : Ch S w w' := ⟨h.os, h.tape, h.output, h.size, fun i hi _ => h.block i hi⟩
theorem Ch.nil_below (h : Ch [] w w') : Below w.heap.size w w' := ⟨h.os, h.tape, h.output, h.size, fun i hi => h.block i hi (by simp)⟩
theorem Ch.grown {row : Option Nat} (h : w.grownBy w' row) : Ch row.toList w w' :=
  ⟨h.os, h.tape, h.output, h.size, fun i hi hn => h.block i hi (by cases row <;> simp_all)⟩
theorem Ch.cell (h : Ch S w w') {p : Addr} (hp : p.block < w.heap.size) (hn : p.block ∉ S) : w'.cell? p = w.cell? p := World.cell?_of_block (w := w) (h.block _ hp hn)
theorem Ch.frozen (h : Ch S w w') {p : Addr} (hp : p.block < w.heap.size) (hn : p.block ∉ S) : w'.frozen? p = w.frozen? p := World.frozen?_of_block (w := w) (h.block _ hp hn)
end

/-! ### A block that is known whole -/

def Blk (w : World) (g : Nat) (t : TypeId) (cs : List Value) : Prop := w.heap[g]? = some (.cells cs.toArray t (0, 0))

section
variable {w w' : World} {g : Nat} {t : TypeId} {cs : List Value} {S : List Nat}
theorem Blk.lt (h : Blk w g t cs) : g < w.heap.size := by
  rcases Nat.lt_or_ge g w.heap.size with hlt | hge
  · exact hlt
  · unfold Blk at h; rw [Array.getElem?_eq_none hge] at h; cases h
theorem Blk.cell (h : Blk w g t cs) (i : Nat) : w.cell? ⟨g, i, none⟩ = cs[i]? := by
  unfold Blk at h; simp [World.cell?, h]
theorem Blk.frozen (h : Blk w g t cs) (i : Nat) : w.frozen? ⟨g, i, none⟩ = false := by
  unfold Blk at h; simp [World.frozen?, h]
theorem Blk.new (w : World) (t : TypeId) (cs : List Value) : Blk (w.alloc (.cells cs.toArray t)) w.heap.size t cs := heap_alloc_new w _
theorem Blk.newAt (w : World) (t : TypeId) (cs : List Value) {g : Nat} (hg : w.heap.size = g) : Blk (w.alloc (.cells cs.toArray t)) g t cs := by subst hg; exact Blk.new w t cs
theorem Blk.heap (h : Blk w g t cs) (e : w'.heap = w.heap) : Blk w' g t cs := by unfold Blk at h ⊢; rw [e]; exact h
theorem Blk.drew (h : Blk w g t cs) : Blk w.drew g t cs := h
theorem Blk.drewN (h : Blk w g t cs) (n : Nat) : Blk (w.drewN n) g t cs := h
theorem Blk.alloc (h : Blk w g t cs) (o : Obj) : Blk (w.alloc o) g t cs := (Below.heap_alloc w o g h.lt).trans h
theorem Blk.set (h : Blk w g t cs) (i : Nat) (u : Value) : Blk (w.setCell ⟨g, i, none⟩ u) g t (cs.set i u) := by
  unfold Blk at h ⊢
  simp [World.setCell, Array.getElem?_modify, h]
theorem Blk.far (h : Blk w g t cs) {p : Addr} (hp : g ≠ p.block) (u : Value) : Blk (w.setCell p u) g t cs := (Below.heap_setCell w p u g hp).trans h
theorem Blk.ch (h : Blk w g t cs) (hc : Ch S w w') (hn : g ∉ S) : Blk w' g t cs := (hc.block g h.lt hn).trans h
theorem Blk.below {B : Nat} (h : Blk w g t cs) (hb : Below B w w') (hg : g < B) : Blk w' g t cs := (hb.block g hg).trans h
theorem Blk.ne {g' : Nat} {t' : TypeId} {cs' : List Value} (h : Blk w g t cs) (h' : Blk w g' t' cs') (hne : t ≠ t') : g ≠ g' := by
  rintro rfl
  unfold Blk at h h'
  rw [h] at h'
  simp only [Option.some.injEq, Obj.cells.injEq] at h'
  exact hne h'.2.1
end

/-! ### A slice as it reads: n elements of 'size' cells each, in a block below B -/

def blkOf : Option Addr → List Nat
  | some a => [a.block]
  | none => []

def Rd (w : World) (B size : Nat) (A : Option Addr) (n : Nat) (vs : List Value) : Prop :=
  vs.length = n * size ∧ (0 < n → ∃ b off, A = some ⟨b, off, none⟩ ∧ b < B ∧ ∀ i v, vs[i]? = some v → w.cell? ⟨b, off + i, none⟩ = some v)

section
variable {w w' : World} {B B' size n : Nat} {A : Option Addr} {vs : List Value} {S : List Nat}
theorem Rd.nil (w : World) (B size : Nat) (A : Option Addr) : Rd w B size A 0 [] := ⟨by simp, fun h => absurd h (by omega)⟩
theorem Rd.keep (h : Rd w B size A n vs) (hk : ∀ b o, b < B → (∀ g ∈ blkOf A, b = g) → w'.cell? ⟨b, o, none⟩ = w.cell? ⟨b, o, none⟩) : Rd w' B size A n vs :=
  ⟨h.1, fun hn => by
    obtain ⟨b, off, rfl, hB, hc⟩ := h.2 hn
    exact ⟨b, off, rfl, hB, fun i v hi => (hk b _ hB (by simp [blkOf])).trans (hc i v hi)⟩⟩
theorem Rd.below (h : Rd w B size A n vs) (hb : Below B w w') : Rd w' B size A n vs := h.keep fun _ _ hB _ => hb.cell hB
theorem Rd.ch (h : Rd w B size A n vs) (hc : Ch S w w') (hB : B ≤ w.heap.size) (hn : ∀ g ∈ blkOf A, g ∉ S) : Rd w' B size A n vs :=
  ⟨h.1, fun hp => by
    obtain ⟨b, off, rfl, hlt, hcell⟩ := h.2 hp
    exact ⟨b, off, rfl, hlt, fun i v hi => (hc.cell (p := ⟨b, off + i, none⟩) (by simp; omega) (hn b (by simp [blkOf]))).trans (hcell i v hi)⟩⟩
theorem Rd.more (h : Rd w B size A n vs) (hB : B ≤ B') : Rd w B' size A n vs :=
  ⟨h.1, fun hn => by
    obtain ⟨b, off, e, hb, hc⟩ := h.2 hn
    exact ⟨b, off, e, by omega, hc⟩⟩
theorem Rd.drew (h : Rd w B size A n vs) : Rd w.drew B size A n vs := h
theorem Rd.drewN (h : Rd w B size A n vs) (k : Nat) : Rd (w.drewN k) B size A n vs := h
theorem Rd.at_ (h : Rd w B 1 A n vs) {k : Nat} (hk : k < n) : ∃ b off v, A = some ⟨b, off, none⟩ ∧ b < B ∧ vs[k]? = some v ∧ w.cell? ⟨b, off + k, none⟩ = some v := by
  obtain ⟨b, off, e, hb, hc⟩ := h.2 (by omega)
  have hl : k < vs.length := by have := h.1; omega
  exact ⟨b, off, vs[k], e, hb, List.getElem?_eq_getElem hl, hc k _ (List.getElem?_eq_getElem hl)⟩
theorem Rd.new (w : World) (size : Nat) (vs : List Value) (n : Nat) (hn : vs.length = n * size) (t : TypeId) : Rd (w.alloc (.cells vs.toArray t)) (w.heap.size + 1) size (some ⟨w.heap.size, 0, none⟩) n vs :=
  ⟨hn, fun _ => ⟨_, _, rfl, by omega, fun i v hi => by rw [Nat.zero_add, World.cell?_alloc_new]; simpa using hi⟩⟩
theorem Rd.blk {g : Nat} {t : TypeId} (h : Blk w g t vs) (hn : vs.length = n * size) (hg : g < B) : Rd w B size (some ⟨g, 0, none⟩) n vs :=
  ⟨hn, fun _ => ⟨g, 0, rfl, hg, fun i v hi => by rw [Nat.zero_add, h.cell]; exact hi⟩⟩
end

theorem RdI.rd {k : IntKind} {w : World} {B : Nat} {A : Option Addr} {n : Nat} {zs : List Int} (h : RdI k w B A n zs) : Rd w B 1 A n (zs.map (Value.int k)) :=
  ⟨by simp [h.1], fun hn => by
    obtain ⟨b, off, e, hb, hc⟩ := h.2 hn
    refine ⟨b, off, e, hb, fun i v hi => ?_⟩
    simp only [List.getElem?_map, Option.map_eq_some_iff] at hi
    obtain ⟨z, hz, rfl⟩ := hi
    have hi' : i < zs.length := by
      rcases Nat.lt_or_ge i zs.length with h1 | h1
      · exact h1
      · rw [List.getElem?_eq_none h1] at hz; cases hz
    rw [hc i (by have := h.1; omega)]
    simp [Go.Proofs.YtjabeabbaambcaaDoor.at_, List.getD, hz]⟩
theorem Rd.ints {k : IntKind} {w : World} {B : Nat} {A : Option Addr} {n : Nat} {zs : List Int} (h : Rd w B 1 A n (zs.map (Value.int k))) : RdI k w B A n zs :=
  ⟨by simpa using h.1, fun hn => by
    obtain ⟨b, off, e, hb, hc⟩ := h.2 hn
    refine ⟨b, off, e, hb, fun i hi => ?_⟩
    have hl : i < zs.length := by have := h.1; simp at this; omega
    refine hc i _ ?_
    simp [Go.Proofs.YtjabeabbaambcaaDoor.at_, List.getD, hl]⟩

theorem RdI.ch {k : IntKind} {w w' : World} {B n : Nat} {A : Option Addr} {zs : List Int} {S : List Nat} (h : RdI k w B A n zs) (hc : Ch S w w') (hB : B ≤ w.heap.size) (hn : ∀ g ∈ blkOf A, g ∉ S) : RdI k w' B A n zs :=
  Rd.ints (h.rd.ch hc hB hn)
theorem RdI.heap {k : IntKind} {w w' : World} {B n : Nat} {A : Option Addr} {zs : List Int} (h : RdI k w B A n zs) (e : w'.heap = w.heap) : RdI k w' B A n zs :=
  ⟨h.1, fun hp => by
    obtain ⟨b, off, e1, hB, hc⟩ := h.2 hp
    exact ⟨b, off, e1, hB, fun i hi => (World.cell?_of_block (w := w) (by rw [e])).trans (hc i hi)⟩⟩
theorem RdI.at_ {k : IntKind} {w : World} {B n : Nat} {A : Option Addr} {zs : List Int} (h : RdI k w B A n zs) {i : Nat} (hi : i < n) : ∃ b off, A = some ⟨b, off, none⟩ ∧ b < B ∧ w.cell? ⟨b, off + i, none⟩ = some (.int k (Go.Proofs.YtjabeabbaambcaaDoor.at_ zs i)) := by
  obtain ⟨b, off, e, hB, hc⟩ := h.2 (by omega)
  exact ⟨b, off, e, hB, hc i hi⟩
theorem Blk.int {k : IntKind} {w : World} {g : Nat} {t : TypeId} {zs : List Int} (h : Blk w g t (zs.map (Value.int k))) {i : Nat} (hi : i < zs.length) : w.cell? ⟨g, i, none⟩ = some (.int k (Go.Proofs.YtjabeabbaambcaaDoor.at_ zs i)) := by
  rw [h.cell]; simp [Go.Proofs.YtjabeabbaambcaaDoor.at_, List.getD, hi]
theorem Blk.setInt {k : IntKind} {w : World} {g : Nat} {t : TypeId} {zs : List Int} (h : Blk w g t (zs.map (Value.int k))) (i : Nat) (v : Int) : Blk (w.setCell ⟨g, i, none⟩ (.int k v)) g t ((zs.set i v).map (Value.int k)) := by
  have := h.set i (.int k v)
  rwa [← List.map_set] at this

/-! ### A slice of the call's own: nil, or at the head of a block at B or behind it -/

def Own (w : World) (B : Nat) (e : TypeId) (size : Nat) (A : Option Addr) (n c : Nat) (xs : List Value) : Prop := w.ownsRow B e size (.slice A n c) n xs

section
variable {w w' : World} {B n c size : Nat} {e : TypeId} {A : Option Addr} {xs : List Value} {S : List Nat}
theorem Own.nil (w : World) (B : Nat) (e : TypeId) (size : Nat) : Own w B e size none 0 0 [] := World.ownsRow_nil w B e size
theorem Own.len (h : Own w B e size A n c xs) : xs.length = n * size := h.1
theorem Own.blks (h : Own w B e size A n c xs) : ∀ g ∈ blkOf A, B ≤ g ∧ g < w.heap.size := by
  intro g hg
  cases A with
  | none => simp [blkOf] at hg
  | some a =>
    simp only [blkOf, List.mem_singleton] at hg
    subst hg
    exact World.ownsRow.lt h _ rfl
theorem Own.form (h : Own w B e size A n c xs) (hn : 0 < n) : ∃ g, A = some ⟨g, 0, none⟩ ∧ B ≤ g ∧ g < w.heap.size := by
  obtain ⟨g, cap, hv, hB, hlt⟩ := World.ownsRow.form h hn
  simp only [Value.slice.injEq] at hv
  exact ⟨g, hv.1, hB, hlt⟩
theorem Own.cap (h : Own w B e size A n c xs) : n ≤ c ∧ c ≤ maxLen := by
  rcases h.2 with ⟨hv, rfl⟩ | ⟨g, cap, cur, hv, _, _, h1, h2, _⟩
  · simp only [Value.slice.injEq] at hv
    obtain ⟨_, _, rfl⟩ := hv
    exact ⟨Nat.le_refl _, by simp [maxLen]⟩
  · simp only [Value.slice.injEq] at hv
    obtain ⟨_, _, rfl⟩ := hv
    exact ⟨h1, h2⟩
theorem Own.rd (h : Own w B e size A n c xs) : Rd w w.heap.size size A n xs :=
  ⟨h.1, fun hn => by
    obtain ⟨g, rfl, _, hlt⟩ := h.form hn
    refine ⟨g, 0, rfl, hlt, fun i v hi => ?_⟩
    have := World.ownsRow.cells h (g := g) rfl i v hi
    rw [← this]
    simp only [Addr.add]
    split <;> simp_all⟩
theorem Own.ch (h : Own w B e size A n c xs) (hc : Ch S w w') (hn : ∀ g ∈ blkOf A, g ∉ S) : Own w' B e size A n c xs := by
  refine ⟨h.1, ?_⟩
  rcases h.2 with h0 | ⟨g, cap, cur, hv, hb, hh, rest⟩
  · exact .inl h0
  · simp only [Value.slice.injEq] at hv
    obtain ⟨rfl, _, rfl⟩ := hv
    exact .inr ⟨g, c, cur, rfl, hb, (hc.block g (lt_of_block hh) (hn g (by simp [blkOf]))).trans hh, rest⟩
theorem Own.alloc (h : Own w B e size A n c xs) (o : Obj) : Own (w.alloc o) B e size A n c xs := World.ownsRow.alloc h o
theorem Own.drew (h : Own w B e size A n c xs) : Own w.drew B e size A n c xs := h
theorem Own.drewN (h : Own w B e size A n c xs) (k : Nat) : Own (w.drewN k) B e size A n c xs := h
theorem Own.new (w : World) (B : Nat) (e : TypeId) (size : Nat) (cs : List Value) (n : Nat) (hB : B ≤ w.heap.size) (hm : n ≤ maxLen) (hs : cs.length = n * size) :
    Own (w.alloc (.cells cs.toArray e)) B e size (some ⟨w.heap.size, 0, none⟩) n n cs := by
  have := World.ownsRow_lit (base := B) (e := e) (size := size) w cs.toArray n hB hm (by simpa using hs)
  simpa [Own] using this
theorem Own.blk {g : Nat} (h : Blk w g e xs) (hB : B ≤ g) (hm : n ≤ maxLen) (hs : xs.length = n * size) : Own w B e size (some ⟨g, 0, none⟩) n n xs :=
  ⟨hs, .inr ⟨g, n, xs.toArray, rfl, hB, h, Nat.le_refl _, hm, by simpa using hs, by simp [hs ▸ List.take_length]⟩⟩
theorem Own.base {B' : Nat} (h : Own w B e size A n c xs) (hB : B' ≤ B) : Own w B' e size A n c xs := by
  refine ⟨h.1, ?_⟩
  rcases h.2 with h0 | ⟨g, cap, cur, hv, hb, rest⟩
  · exact .inl h0
  · exact .inr ⟨g, cap, cur, hv, by omega, rest⟩
/-- A cell that is stored into. -/
theorem Own.set {g : Nat} (h : Own w B e size (some ⟨g, 0, none⟩) n c xs) (j : Nat) (u : Value) : Own (w.setCell ⟨g, j, none⟩ u) B e size (some ⟨g, 0, none⟩) n c (xs.set j u) :=
  (World.ownsRow.stored h j u).1
end

/-! ### append onto a slice of the call's own -/

section
variable {P : Program} (w : World)

theorem run_append_none (base : Nat) (t ty e : TypeId) (i : TypeInfo) (size : Nat) (ht : P.underlying t = some (.slice e)) (hi : P.info? e = some i)
    (v : Value) (n : Nat) (xs : List Value) (hown : w.ownsRow base e size v n xs) (c : Nat) : (Builtin.append_ #[t, t] ty #[v, .slice none 0 c]).run P w = .ok v w := by
  rcases hown.2 with ⟨rfl, rfl⟩ | ⟨g, cap, cur, rfl, _, _, hnc, _⟩
  · simp [Builtin.append_, run_underlying ht, sizeOf, typeInfo, hi, Builtin.lenOf, Builtin.firstCells]
  · simp [Builtin.append_, run_underlying ht, sizeOf, typeInfo, hi, Builtin.lenOf, Builtin.firstCells, hnc, storeCells]

theorem run_app (B : Nat) (t ty e : TypeId) (z : Value) (size bytes : Nat) (ht : P.underlying t = some (.slice e)) (hinfo : (P.info? e).map (fun i => (i.zero, i.size, i.bytes)) = some (some z, size, bytes))
    (hzs : z.cells.size = size) (hsz : 0 < size) (A : Option Addr) (n c : Nat) (xs : List Value) (hown : Own w B e size A n c xs)
    (B' : Nat) (A' : Option Addr) (m c' : Nat) (news : List Value) (hrd : Rd w B' size A' m news) (h1 : ∀ u ∈ news, u.oneCell' = true)
    (h63 : n + m ≤ maxLen) (hbytes : (n + m) * bytes ≤ 140737488355328) (hbase : B ≤ w.heap.size) :
    ∃ A2 c2 w', (Builtin.append_ #[t, t] ty #[.slice A n c, .slice A' m c']).run P w = .ok (.slice A2 (n + m) c2) w' ∧ Own w' B e size A2 (n + m) c2 (xs ++ news) ∧ Ch (blkOf A) w w' ∧
      (∀ g ∈ blkOf A2, g ∈ blkOf A ∨ g = w.heap.size) := by
  obtain ⟨i, hi, hz, hsize, hby⟩ := info_parts hinfo
  have hform : ∀ (v' : Value) (w' : World) (k : Nat) (ys : List Value), w'.ownsRow B e size v' k ys → ∃ A2 c2, v' = .slice A2 k c2 := by
    intro v' w' k ys h
    rcases h.2 with ⟨rfl, rfl⟩ | ⟨g, cap, cur, rfl, _⟩
    · exact ⟨none, 0, rfl⟩
    · exact ⟨_, _, rfl⟩
  rcases A' with _ | ad
  · have hm : m = 0 := by
      rcases Nat.eq_zero_or_pos m with h0 | h0
      · exact h0
      · obtain ⟨b, off, h, _⟩ := hrd.2 h0
        cases h
    subst hm
    have hn : news = [] := List.eq_nil_of_length_eq_zero (by simpa using hrd.1)
    subst hn
    refine ⟨A, c, w, run_append_none w B t ty e i size ht hi _ n xs hown c', by simpa using hown, Ch.refl _ _, fun g hg => .inl hg⟩
  · have hcells : ∀ j u, news[j]? = some u → w.cell? (ad.add j) = some u := by
      intro j u hu
      rcases Nat.eq_zero_or_pos m with h0 | h0
      · subst h0
        have hn : news = [] := List.eq_nil_of_length_eq_zero (by simpa using hrd.1)
        subst hn
        simp at hu
      · obtain ⟨b, off, h, _, hc⟩ := hrd.2 h0
        simp only [Option.some.injEq] at h
        subst h
        have := hc j u hu
        rw [← this]
        simp only [Addr.add]
        split <;> simp_all
    obtain ⟨v', w', hrun, h2, h3, _, h5⟩ := run_append_own_at (P := P) w B t ty e i z size bytes ht hi hz hsize hby hzs hsz _ n xs hown ad m c' news hrd.1 hcells h1 h63 hbytes hbase
    obtain ⟨A2, c2, rfl⟩ := hform _ _ _ _ h2
    refine ⟨A2, c2, w', hrun, h2, ?_, ?_⟩
    · have := Ch.grown h3
      cases A <;> simpa [blkOf, Value.ownBlock] using this
    · intro g hg
      cases A2 with
      | none => simp [blkOf] at hg
      | some a2 =>
        simp only [blkOf, List.mem_singleton] at hg
        subst hg
        rcases h5 with h5 | h5
        · left
          cases A with
          | none => simp [Value.ownBlock] at h5
          | some a1 => simp [Value.ownBlock] at h5; simp [blkOf, h5]
        · right
          simpa [Value.ownBlock] using h5

theorem wp_app {o : Oper} {a : Act} {K : Act → World → Prop} {Q : Exit → Act → World → Prop} (s x : Operand) (t : TypeId)
    (ho : o.op = .call { callee := .builtin .append, args := #[s, x], argTypes := #[t, t] })
    (B : Nat) (e : TypeId) (z : Value) (size bytes : Nat) (ht : P.underlying t = some (.slice e)) (hinfo : (P.info? e).map (fun i => (i.zero, i.size, i.bytes)) = some (some z, size, bytes))
    (hzs : z.cells.size = size) (hsz : 0 < size) (A : Option Addr) (n c : Nat) (xs : List Value) (hs : a.eval s = .slice A n c) (hown : Own w B e size A n c xs)
    (B' : Nat) (A' : Option Addr) (m c' : Nat) (news : List Value) (hx : a.eval x = .slice A' m c') (hrd : Rd w B' size A' m news) (h1 : ∀ u ∈ news, u.oneCell' = true)
    (h63 : n + m ≤ maxLen) (hbytes : (n + m) * bytes ≤ 140737488355328) (hbase : B ≤ w.heap.size)
    (h : ∀ A2 c2 w', Own w' B e size A2 (n + m) c2 (xs ++ news) → Ch (blkOf A) w w' → (∀ g ∈ blkOf A2, g ∈ blkOf A ∨ g = w.heap.size) → K (a.put o.dst (.slice A2 (n + m) c2)) w') : o.wp P a w K Q := by
  obtain ⟨A2, c2, w', hrun, h2, h3, h4⟩ := run_app (P := P) w B t o.type e z size bytes ht hinfo hzs hsz A n c xs hown B' A' m c' news hrd h1 h63 hbytes hbase
  unfold Oper.wp execOp
  simp only [ho, resolve, invoke, builtin, Sem.run_bind, Sem.run_pure, Result.andThen_ok, List.map_toArray, List.map_cons, List.map_nil, hs, hx, hrun]
  exact h A2 c2 w' h2 h3 h4

theorem wpList_app {ops : Array Oper} {rest : List Oper} {o : Oper} {a : Act} {Q : Exit → Act → World → Prop} (hgd : o.guard = none) (s x : Operand) (t : TypeId)
    (ho : o.op = .call { callee := .builtin .append, args := #[s, x], argTypes := #[t, t] })
    (B : Nat) (e : TypeId) (z : Value) (size bytes : Nat) (ht : P.underlying t = some (.slice e)) (hinfo : (P.info? e).map (fun i => (i.zero, i.size, i.bytes)) = some (some z, size, bytes))
    (hzs : z.cells.size = size) (hsz : 0 < size) (A : Option Addr) (n c : Nat) (xs : List Value) (hs : a.eval s = .slice A n c) (hown : Own w B e size A n c xs)
    (B' : Nat) (A' : Option Addr) (m c' : Nat) (news : List Value) (hx : a.eval x = .slice A' m c') (hrd : Rd w B' size A' m news) (h1 : ∀ u ∈ news, u.oneCell' = true)
    (h63 : n + m ≤ maxLen) (hbytes : (n + m) * bytes ≤ 140737488355328) (hbase : B ≤ w.heap.size)
    (h : ∀ A2 c2 w', Own w' B e size A2 (n + m) c2 (xs ++ news) → Ch (blkOf A) w w' → (∀ g ∈ blkOf A2, g ∈ blkOf A ∨ g = w.heap.size) → wpList P ops Q rest (a.put o.dst (.slice A2 (n + m) c2)) w') :
    wpList P ops Q (o :: rest) a w :=
  wpList_plain hgd fun _ hK => wp_app w s x t ho B e z size bytes ht hinfo hzs hsz A n c xs hs hown B' A' m c' news hx hrd h1 h63 hbytes hbase fun A2 c2 w' h2 h3 h4 => hK _ _ (h A2 c2 w' h2 h3 h4)

theorem step_app {ops : Array Oper} {o : Oper} {a : Act} {K : Act → World → Prop} {Q : Exit → Act → World → Prop} {E : Prop} (hgd : o.guard = none) (s x : Operand) (t : TypeId)
    (ho : o.op = .call { callee := .builtin .append, args := #[s, x], argTypes := #[t, t] })
    (B : Nat) (e : TypeId) (z : Value) (size bytes : Nat) (ht : P.underlying t = some (.slice e)) (hinfo : (P.info? e).map (fun i => (i.zero, i.size, i.bytes)) = some (some z, size, bytes))
    (hzs : z.cells.size = size) (hsz : 0 < size) (A : Option Addr) (n c : Nat) (xs : List Value) (hs : a.eval s = .slice A n c) (hown : Own w B e size A n c xs)
    (B' : Nat) (A' : Option Addr) (m c' : Nat) (news : List Value) (hx : a.eval x = .slice A' m c') (hrd : Rd w B' size A' m news) (h1 : ∀ u ∈ news, u.oneCell' = true)
    (h63 : n + m ≤ maxLen) (hbytes : (n + m) * bytes ≤ 140737488355328) (hbase : B ≤ w.heap.size)
    (h : ∀ A2 c2 w', Own w' B e size A2 (n + m) c2 (xs ++ news) → Ch (blkOf A) w w' → (∀ g ∈ blkOf A2, g ∈ blkOf A ∨ g = w.heap.size) → K (a.put o.dst (.slice A2 (n + m) c2)) w') :
    if Region.wanted o (yielded ops a.tmps) = true then Oper.wp P o a w K Q else E := by
  have hw : Region.wanted o (yielded ops a.tmps) = true := by simp [Region.wanted, hgd]
  rw [if_pos hw]
  exact wp_app w s x t ho B e z size bytes ht hinfo hzs hsz A n c xs hs hown B' A' m c' news hx hrd h1 h63 hbytes hbase h
end
end Go.Proofs.YtjabeabbaambcaaDoor
