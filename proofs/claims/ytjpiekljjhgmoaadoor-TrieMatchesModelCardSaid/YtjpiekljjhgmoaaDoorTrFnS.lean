/- trie.Trie[string] by the map that it stores (printed by mk_trie4.py). -/
import Derived.Test.YtjpiekljjhgmoaaDoorTrLkS
import Derived.Test.YtjpiekljjhgmoaaDoorTrF
namespace Go.Proofs.YtjpiekljjhgmoaaDoor
open Go.RowKit

abbrev TrMS := TrF 124 115
theorem trNewFS (w : World) : Calls Tryd.prog 42 #[] w fun e w' => e = .returned (.pointer (some ⟨w.heap.size, 0, none⟩)) ∧ TrMS w' w.heap.size (fun _ => none) 0 [w.heap.size] ∧ Ch [] w w' :=
  (trNewS w).mono fun _ _ ⟨h1, h2, h3⟩ => ⟨h1, ⟨_, h2, by simp, fun _ _ h => (by cases h), fun b hb => by rw [List.mem_singleton.1 hb]; exact h2.root.lt, fun _ => rfl⟩, h3⟩
section
variable {w : World} {g : Nat} {m : KM} {n : Int} {F : List Nat}
theorem trInsFS (h : TrMS w g m n F) (hn : 0 ≤ n ∧ n ≤ 1000000) (p : Pfx) (hp : OkP p) (x : ByteArray) :
    Calls Tryd.prog 44 #[.pointer (some ⟨g, 0, none⟩), .agg (pfxC p).toArray, .string x] w fun e w' => e = .returned (.bool true) ∧ ∃ F', TrMS w' g (mset m (keyP p) (.string x)) (if m (keyP p) = none then n + 1 else n) F' ∧ Ch F w w' ∧ ∀ b ∈ F', b ∈ F ∨ w.heap.size ≤ b := by
  obtain ⟨nd, W⟩ := id h
  refine (trInsertS w g nd n F W.t W.g_in W.b_in W.lt hn p hp x).mono ?_
  rintro e w' ⟨h1, nd', n', ht, hv, hn', hc, hb⟩
  rw [W.val] at hn'
  rw [hn']
  refine ⟨h1, _, h.mk' ht (fun κ => ?_) hc hb, hc, fun b hb => ?_⟩
  · rw [hv, mset, W.val]
  · rcases List.mem_append.1 hb with h | h
    · exact .inl h
    · exact .inr (newB_ge h).1
theorem trLenFS (h : TrMS w g m n F) : Calls Tryd.prog 47 #[.pointer (some ⟨g, 0, none⟩)] w fun e w' => e = .returned (.int .i64 n) ∧ w = w' := by
  obtain ⟨nd, W⟩ := h
  exact trLenS w g nd n W.t
theorem trLookNS (h : TrMS w g m n F) {six : Bool} {bs : List Int} (hg : GoodA bs) (hm : mK m six bs = []) : Calls Tryd.prog 45 #[.pointer (some ⟨g, 0, none⟩), .agg (addrC six bs).toArray] w fun e w' => e = .returned (.tuple #[.agg #[.bool false, .int .u8 0, .int .u8 0, .int .u8 0, .int .u8 0, .int .u8 0, .int .u8 0, .int .u8 0, .int .u8 0, .int .u8 0, .int .u8 0, .int .u8 0, .int .u8 0, .int .u8 0, .int .u8 0, .int .u8 0, .int .u8 0, .int .i64 0], .string ⟨#[]⟩, .bool false]) ∧ Ch [] w w' := by
  obtain ⟨nd, W⟩ := h
  exact trLkNoneS w g nd n W.t six bs hg (W.none hg hm)
theorem trLookSS (h : TrMS w g m n F) {six : Bool} {bs : List Int} (hg : GoodA bs) {l : List (Nat × Value)} {e0 : Nat × Value} (hm : mK m six bs = l ++ [e0]) : Calls Tryd.prog 45 #[.pointer (some ⟨g, 0, none⟩), .agg (addrC six bs).toArray] w fun e w' => e = .returned (.tuple #[.agg (pfxC (kPfx six bs e0)).toArray, e0.2, .bool true]) ∧ Ch [] w w' := by
  obtain ⟨nd, W⟩ := h
  obtain ⟨l', d, h1, h2, h3⟩ := W.last hg hm
  rw [← h2, ← h3]
  exact trLkSomeS w g nd n W.t six bs hg l' d h1
theorem trMtsFS (h : TrMS w g m n F) {six : Bool} {bs : List Int} (hg : GoodA bs) {l : List (Nat × Value)} (hm : mK m six bs = l) : Calls Tryd.prog 48 #[.pointer (some ⟨g, 0, none⟩), .agg (addrC six bs).toArray] w fun e w' => ∃ A c, e = .returned (.slice A l.length c) ∧ Own w' w.heap.size 33 18 A l.length c (l.flatMap fun e => pfxC (kPfx six bs e)) ∧ Ch [] w w' := by
  obtain ⟨nd, W⟩ := h
  have := trMtsS w g nd n W.t six bs hg
  rw [W.len hg, W.flat hg, hm] at this
  exact this
end
end Go.Proofs.YtjpiekljjhgmoaaDoor
