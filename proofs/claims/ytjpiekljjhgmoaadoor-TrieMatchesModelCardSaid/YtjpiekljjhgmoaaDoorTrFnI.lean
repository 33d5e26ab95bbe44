/- trie.Trie[int] by the map that it stores (printed by mk_trie4.py). -/
import Derived.Test.YtjpiekljjhgmoaaDoorTrLkI
import Derived.Test.YtjpiekljjhgmoaaDoorTrF
namespace Go.Proofs.YtjpiekljjhgmoaaDoor
open Go.RowKit

abbrev TrMI := TrF 81 76
theorem trNewFI (w : World) : Calls Tryd.prog 7 #[] w fun e w' => e = .returned (.pointer (some ⟨w.heap.size, 0, none⟩)) ∧ TrMI w' w.heap.size (fun _ => none) 0 [w.heap.size] ∧ Ch [] w w' :=
  (trNewI w).mono fun _ _ ⟨h1, h2, h3⟩ => ⟨h1, ⟨_, h2, by simp, fun _ _ h => (by cases h), fun b hb => by rw [List.mem_singleton.1 hb]; exact h2.root.lt, fun _ => rfl⟩, h3⟩
section
variable {w : World} {g : Nat} {m : KM} {n : Int} {F : List Nat}
theorem trInsFI (h : TrMI w g m n F) (hn : 0 ≤ n ∧ n ≤ 1000000) (p : Pfx) (hp : OkP p) (x : Int) :
    Calls Tryd.prog 12 #[.pointer (some ⟨g, 0, none⟩), .agg (pfxC p).toArray, .int .i64 x] w fun e w' => e = .returned (.bool true) ∧ ∃ F', TrMI w' g (mset m (keyP p) (.int .i64 x)) (if m (keyP p) = none then n + 1 else n) F' ∧ Ch F w w' ∧ ∀ b ∈ F', b ∈ F ∨ w.heap.size ≤ b := by
  obtain ⟨nd, W⟩ := id h
  refine (trInsertI w g nd n F W.t W.g_in W.b_in W.lt hn p hp x).mono ?_
  rintro e w' ⟨h1, nd', n', ht, hv, hn', hc, hb⟩
  rw [W.val] at hn'
  rw [hn']
  refine ⟨h1, _, h.mk' ht (fun κ => ?_) hc hb, hc, fun b hb => ?_⟩
  · rw [hv, mset, W.val]
  · rcases List.mem_append.1 hb with h | h
    · exact .inl h
    · exact .inr (newB_ge h).1
theorem trLenFI (h : TrMI w g m n F) : Calls Tryd.prog 19 #[.pointer (some ⟨g, 0, none⟩)] w fun e w' => e = .returned (.int .i64 n) ∧ w = w' := by
  obtain ⟨nd, W⟩ := h
  exact trLenI w g nd n W.t
theorem trLookNI (h : TrMI w g m n F) {six : Bool} {bs : List Int} (hg : GoodA bs) (hm : mK m six bs = []) : Calls Tryd.prog 14 #[.pointer (some ⟨g, 0, none⟩), .agg (addrC six bs).toArray] w fun e w' => e = .returned (.tuple #[.agg #[.bool false, .int .u8 0, .int .u8 0, .int .u8 0, .int .u8 0, .int .u8 0, .int .u8 0, .int .u8 0, .int .u8 0, .int .u8 0, .int .u8 0, .int .u8 0, .int .u8 0, .int .u8 0, .int .u8 0, .int .u8 0, .int .u8 0, .int .i64 0], .int .i64 0, .bool false]) ∧ Ch [] w w' := by
  obtain ⟨nd, W⟩ := h
  exact trLkNoneI w g nd n W.t six bs hg (W.none hg hm)
theorem trLookSI (h : TrMI w g m n F) {six : Bool} {bs : List Int} (hg : GoodA bs) {l : List (Nat × Value)} {e0 : Nat × Value} (hm : mK m six bs = l ++ [e0]) : Calls Tryd.prog 14 #[.pointer (some ⟨g, 0, none⟩), .agg (addrC six bs).toArray] w fun e w' => e = .returned (.tuple #[.agg (pfxC (kPfx six bs e0)).toArray, e0.2, .bool true]) ∧ Ch [] w w' := by
  obtain ⟨nd, W⟩ := h
  obtain ⟨l', d, h1, h2, h3⟩ := W.last hg hm
  rw [← h2, ← h3]
  exact trLkSomeI w g nd n W.t six bs hg l' d h1
theorem trMtsFI (h : TrMI w g m n F) {six : Bool} {bs : List Int} (hg : GoodA bs) {l : List (Nat × Value)} (hm : mK m six bs = l) : Calls Tryd.prog 16 #[.pointer (some ⟨g, 0, none⟩), .agg (addrC six bs).toArray] w fun e w' => ∃ A c, e = .returned (.slice A l.length c) ∧ Own w' w.heap.size 33 18 A l.length c (l.flatMap fun e => pfxC (kPfx six bs e)) ∧ Ch [] w w' := by
  obtain ⟨nd, W⟩ := h
  have := trMtsI w g nd n W.t six bs hg
  rw [W.len hg, W.flat hg, hm] at this
  exact this
end
end Go.Proofs.YtjpiekljjhgmoaaDoor
