/- 'copy' of a slice's cells into a block. -/
import Derived.Test.YtjabeabbaambcaaDoorRow
import Derived.Laws.CopyRow
namespace Go.Proofs.YtjabeabbaambcaaDoor
open Go.RowKit

section
variable {P : Program} {ops : Array Oper} {rest : List Oper} {o : Oper} {ac : Act} {w : World} {Q : Exit → Act → World → Prop} {K : Act → World → Prop}
theorem wp_copyB (x y : Operand) (t1 t2 : TypeId) (ho : o.op = .call { callee := .builtin .copy, args := #[x, y], argTypes := #[t1, t2] })
    (g of len cap b off sLen sCap : Nat) (t e : TypeId) (cs vs cs' : List Value) (hx : ac.eval x = .slice (some ⟨g, of, none⟩) len cap) (hy : ac.eval y = .slice (some ⟨b, off, none⟩) sLen sCap) (hB : Blk w g t cs)
    (hu : P.underlying t1 = some (.slice e)) (hs : (P.info? e).map (·.size) = some 1) (hn : vs.length = Nat.min sLen len) (hr : w.rangeAt b off vs) (hfit : of + vs.length ≤ cs.length) (h1 : vs.all (·.oneCell') = true)
    (he : cs.take of ++ vs ++ cs.drop (of + vs.length) = cs')
    (h : ∀ w', Blk w' g t cs' → Ch [g] w w' → w'.heap.size = w.heap.size → K (ac.put o.dst (.int .i64 vs.length)) w') : o.wp P ac w K Q := by
  have hrun := run_copy_row (P := P) w t1 t2 o.type e g of len cap ⟨b, off, none⟩ sLen sCap cs.toArray t vs hu hs hB hn (fun j v hv => by rw [Addr.add_mid]; exact hr j v hv) (by simpa using hfit) (fun v hv => List.all_eq_true.1 h1 v hv)
  unfold Oper.wp execOp
  simp only [ho, resolve, invoke, builtin, Sem.run_bind, Sem.run_pure, Result.andThen_ok, List.map_toArray, List.map_cons, List.map_nil, hx, hy, hrun]
  refine h _ ?_ ((Ch.refl _ _).setRow (.inl (by simp)) _) (size_setRow ..)
  subst he
  simpa using hB.setRow (cs.take of ++ vs ++ cs.drop (of + vs.length))
theorem wpList_copyB (hgd : o.guard = none) (x y : Operand) (t1 t2 : TypeId) (ho : o.op = .call { callee := .builtin .copy, args := #[x, y], argTypes := #[t1, t2] })
    (g of len cap b off sLen sCap : Nat) (t e : TypeId) (cs vs cs' : List Value) (hx : ac.eval x = .slice (some ⟨g, of, none⟩) len cap) (hy : ac.eval y = .slice (some ⟨b, off, none⟩) sLen sCap) (hB : Blk w g t cs)
    (hu : P.underlying t1 = some (.slice e)) (hs : (P.info? e).map (·.size) = some 1) (hn : vs.length = Nat.min sLen len) (hr : w.rangeAt b off vs) (hfit : of + vs.length ≤ cs.length) (h1 : vs.all (·.oneCell') = true)
    (he : cs.take of ++ vs ++ cs.drop (of + vs.length) = cs')
    (h : ∀ w', Blk w' g t cs' → Ch [g] w w' → w'.heap.size = w.heap.size → wpList P ops Q rest (ac.put o.dst (.int .i64 vs.length)) w') : wpList P ops Q (o :: rest) ac w :=
  wpList_plain hgd fun _ hK => wp_copyB x y t1 t2 ho g of len cap b off sLen sCap t e cs vs cs' hx hy hB hu hs hn hr hfit h1 he fun w' h1 h2 h3 => hK _ _ (h w' h1 h2 h3)
end
end Go.Proofs.YtjabeabbaambcaaDoor
