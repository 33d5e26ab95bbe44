/- Structs in memory: stored whole, loaded whole, returned out of a cell; a string copied into a block. -/
import Derived.Test.YtjabeabbaambcaaDoorMem
import Derived.Test.YtjabeabbaambcaaDoorStr
import Derived.Laws.Tables
import Derived.Lib.BufferWrite
import Derived.Deep.MidRow
namespace Go.Proofs.YtjabeabbaambcaaDoor
open Go.RowKit

section
variable {P : Program} {w w' a : World} {g : Nat} {t : TypeId} {cs cs' : List Value} {S : List Nat}
theorem Blk.setRow (h : Blk w g t cs) (cs' : List Value) : Blk (w.setRow g cs'.toArray) g t cs' := setRow_heap w g _ _ t _ h
theorem Ch.setRow (h : Ch S a w) (hg : g ∈ S ∨ a.heap.size ≤ g) (cs : Array Value) : Ch S a (w.setRow g cs) :=
  ⟨h.os, h.tape, h.output, by rw [size_setRow]; exact h.size, fun k hk hn => by
    rw [setRow_other w g k cs (fun e => by subst e; rcases hg with h1 | h1; exact hn h1; omega)]
    exact h.block k hk hn⟩
theorem Blk.range (h : Blk w g t cs) : w.rangeAt g 0 cs := fun j v hj => by rw [h.cell, Nat.zero_add]; exact hj
theorem Blk.rangeMid (h : Blk w g t cs) (o : Nat) (xs : List Value) (hx : ∀ j v, xs[j]? = some v → cs[o + j]? = some v) : w.rangeAt g o xs := fun j v hj => by rw [h.cell]; exact hx j v hj

theorem results_row3 {fn : Func} {p u v : Tmp} {ty : TypeId} (h : fn.results = #[.cell p ty, .tmp u, .tmp v]) (tmps : Array Value) (d : TypeDesc)
    (hp : tmps.getD p undef = .pointer (some ⟨g, 0, none⟩)) (hg : Blk w g t cs) (hu : P.underlying ty = some d) (hd : (match d with | .struct _ | .array _ _ => true | _ => false) = true) (hi : (P.info? ty).map (·.size) = some cs.length) :
    (results fn tmps).run P w = .ok (.tuple #[.agg cs.toArray, tmps.getD u undef, tmps.getD v undef]) w := by
  have hp' : tmps[p]?.getD undef = .pointer (some ⟨g, 0, none⟩) := by simpa using hp
  simp [results, h, hp', asAddr, Result.andThen, run_loadVar_row w g t ty cs.toArray (0, 0) d hg hu hd (by simpa using hi)]
theorem results_row4 {fn : Func} {p u v x : Tmp} {ty : TypeId} (h : fn.results = #[.tmp x, .cell p ty, .tmp u, .tmp v]) (tmps : Array Value) (d : TypeDesc)
    (hp : tmps.getD p undef = .pointer (some ⟨g, 0, none⟩)) (hg : Blk w g t cs) (hu : P.underlying ty = some d) (hd : (match d with | .struct _ | .array _ _ => true | _ => false) = true) (hi : (P.info? ty).map (·.size) = some cs.length) :
    (results fn tmps).run P w = .ok (.tuple #[tmps.getD x undef, .agg cs.toArray, tmps.getD u undef, tmps.getD v undef]) w := by
  have hp' : tmps[p]?.getD undef = .pointer (some ⟨g, 0, none⟩) := by simpa using hp
  simp [results, h, hp', asAddr, Result.andThen, run_loadVar_row w g t ty cs.toArray (0, 0) d hg hu hd (by simpa using hi)]
theorem results_row1 {fn : Func} {p : Tmp} {ty : TypeId} (h : fn.results = #[.cell p ty]) (tmps : Array Value) (d : TypeDesc)
    (hp : tmps.getD p undef = .pointer (some ⟨g, 0, none⟩)) (hg : Blk w g t cs) (hu : P.underlying ty = some d) (hd : (match d with | .struct _ | .array _ _ => true | _ => false) = true) (hi : (P.info? ty).map (·.size) = some cs.length) :
    (results fn tmps).run P w = .ok (.agg cs.toArray) w :=
  results_cell_row h tmps w g t cs.toArray (0, 0) d hp hg hu hd (by simpa using hi)

variable {ops : Array Oper} {rest : List Oper} {o : Oper} {ac : Act} {Q : Exit → Act → World → Prop} {K : Act → World → Prop}
theorem wp_storeB (ty : TypeId) (x y : Operand) (ho : o.op = .store ty x y)
    (g : Nat) (t : TypeId) (cs cs' : List Value) (hx : ac.eval x = .pointer (some ⟨g, 0, none⟩)) (hy : ac.eval y = .agg cs'.toArray) (hB : Blk w g t cs) (hi : (P.info? ty).map (·.size) = some cs'.length) (hl : cs.length = cs'.length) (h1 : cs'.all (·.oneCell') = true)
    (h : ∀ w', Blk w' g t cs' → Ch [g] w w' → w'.heap.size = w.heap.size → K (ac.put o.dst undef) w') : o.wp P ac w K Q :=
  wp_store_row ty x y ho g cs'.toArray hx hy t cs.toArray hB (by simpa using hi) (by simpa using hl) (by simpa using h1) (h _ (hB.setRow cs') ((Ch.refl _ _).setRow (.inl (by simp)) _) (size_setRow ..))
theorem wpList_storeB (hgd : o.guard = none) (ty : TypeId) (x y : Operand) (ho : o.op = .store ty x y)
    (g : Nat) (t : TypeId) (cs cs' : List Value) (hx : ac.eval x = .pointer (some ⟨g, 0, none⟩)) (hy : ac.eval y = .agg cs'.toArray) (hB : Blk w g t cs) (hi : (P.info? ty).map (·.size) = some cs'.length) (hl : cs.length = cs'.length) (h1 : cs'.all (·.oneCell') = true)
    (h : ∀ w', Blk w' g t cs' → Ch [g] w w' → w'.heap.size = w.heap.size → wpList P ops Q rest (ac.put o.dst undef) w') : wpList P ops Q (o :: rest) ac w :=
  wpList_plain hgd fun _ hK => wp_storeB ty x y ho g t cs cs' hx hy hB hi hl h1 fun w' h1 h2 h3 => hK _ _ (h w' h1 h2 h3)
theorem wpList_loadB (hgd : o.guard = none) (ty : TypeId) (x : Operand) (ho : o.op = .load ty x) (g : Nat) (t : TypeId) (cs : List Value) (d : TypeDesc) (hx : ac.eval x = .pointer (some ⟨g, 0, none⟩)) (hB : Blk w g t cs)
    (hu : P.underlying ty = some d) (hd : (match d with | .struct _ | .array _ _ => true | _ => false) = true) (hi : (P.info? ty).map (·.size) = some cs.length)
    (h : wpList P ops Q rest (ac.put o.dst (.agg cs.toArray)) w) : wpList P ops Q (o :: rest) ac w :=
  wpList_load_row hgd ty x ho g hx t cs.toArray (0, 0) d hB hu hd (by simpa using hi) h

/-- 'copy(b, s)' of a string that fits, b lying in a block from place o on. -/
theorem wpList_copyStr (hgd : o.guard = none) (x y : Operand) (t1 t2 : TypeId) (ho : o.op = .call { callee := .builtin .copy, args := #[x, y], argTypes := #[t1, t2] })
    (g of len cap : Nat) (s : ByteArray) (t e : TypeId) (cs : List Value) (hx : ac.eval x = .slice (some ⟨g, of, none⟩) len cap) (hy : ac.eval y = .string s) (hB : Blk w g t cs)
    (hu : P.underlying t1 = some (.slice e)) (hs : (P.info? e).map (·.size) = some 1) (hle : s.size ≤ len) (hfit : of + s.size ≤ cs.length)
    (h : ∀ w', Blk w' g t (cs.take of ++ (numsOf s).map (Value.int .u8) ++ cs.drop (of + s.size)) → Ch [g] w w' → w'.heap.size = w.heap.size → wpList P ops Q rest (ac.put o.dst (.int .i64 s.size)) w') :
    wpList P ops Q (o :: rest) ac w := by
  refine wpList_plain hgd fun K hK => ?_
  have hr := Lib.run_copy_row_string (P := P) w t1 t2 o.type e g of len cap s cs.toArray t hu hs hB hle (by simpa using hfit)
  have e1 : Lib.byteCells s.data.toList = (numsOf s).map (Value.int .u8) := by unfold Lib.byteCells numsOf; rw [List.map_map]; rfl
  rw [e1] at hr
  unfold Oper.wp execOp
  simp only [ho, resolve, invoke, builtin, Sem.run_bind, Sem.run_pure, Result.andThen_ok, List.map_toArray, List.map_cons, List.map_nil, hx, hy, hr]
  exact hK _ _ (h _ (by simpa using hB.setRow (cs.take of ++ (numsOf s).map (Value.int .u8) ++ cs.drop (of + s.size))) ((Ch.refl _ _).setRow (.inl (by simp)) _) (size_setRow ..))
end
end Go.Proofs.YtjabeabbaambcaaDoor
