/- trie.Trie[int]: Get, Delete by the map (printed by mk_trie8.py). -/
import Derived.Test.YtjpiekljjhgmoaaDoorTrFnI
import Derived.Test.YtjpiekljjhgmoaaDoorTrDlI
import Derived.Test.YtjpiekljjhgmoaaDoorTrG
namespace Go.Proofs.YtjpiekljjhgmoaaDoor
open Go.RowKit
section
variable {w : World} {g : Nat} {m : KM} {n : Int} {F : List Nat}
theorem trGetFI (h : TrMI w g m n F) (p : Pfx) (hg : GoodA p.2.1) {o : Option Value} (ho : mget m p = o) :
    Calls Tryd.prog 34 #[.pointer (some ⟨g, 0, none⟩), .agg (pfxC p).toArray] w fun e w' => e = .returned (.tuple #[o.getD (.int .i64 0), .bool o.isSome]) ∧ Ch [] w w' := by
  obtain ⟨nd, W⟩ := h
  exact trGetI w g nd n W.t p hg o (by rw [← ho, mget, W.val])
theorem trLookAI (h : TrMI w g m n F) {six : Bool} {bs : List Int} (hg : GoodA bs) {l : List (Nat × Value)} (hm : mK m six bs = l) :
    Calls Tryd.prog 14 #[.pointer (some ⟨g, 0, none⟩), .agg (addrC six bs).toArray] w fun e w' => e = .returned (.tuple #[.agg (pfxC (lookP six bs l)).toArray, lookV (.int .i64 0) l, .bool (!l.isEmpty)]) ∧ Ch [] w w' := by
  rcases List.eq_nil_or_concat l with rfl | ⟨l', e0, rfl⟩
  · exact trLookNI h hg hm
  · rw [List.concat_eq_append] at hm ⊢
    rw [show lookP six bs (l' ++ [e0]) = kPfx six bs e0 by simp [lookP], show lookV (.int .i64 0) (l' ++ [e0]) = e0.2 by simp [lookV], show (!(l' ++ [e0]).isEmpty) = true by simp]
    exact trLookSI h hg hm
theorem trInsBadFI (p : Pfx) (hg : GoodA p.2.1) (hv : validP p = false) (x : Int) :
    Calls Tryd.prog 12 #[.pointer (some ⟨g, 0, none⟩), .agg (pfxC p).toArray, .int .i64 x] w fun e w' => e = .returned (.bool false) ∧ Ch [] w w' := trInsBadI w g p hg hv x
theorem trDelNFI (h : TrMI w g m n F) (p : Pfx) (hg : GoodA p.2.1) (hm : mget m p = none) :
    Calls Tryd.prog 33 #[.pointer (some ⟨g, 0, none⟩), .agg (pfxC p).toArray] w fun e w' => e = .returned (.bool false) ∧ Ch [] w w' := by
  obtain ⟨nd, W⟩ := h
  refine trDelNoI w g nd n W.t p hg ?_
  unfold mget at hm
  cases hv : validP p
  · rfl
  · rw [hv] at hm
    simp only [if_true] at hm ⊢
    rw [← W.val] at hm
    cases hn : nd (keyP p) with
    | none => rfl
    | some d => simp [ndOn, Tri.val_none hm hn]
theorem trDelFI (h : TrMI w g m n F) (hn : 0 ≤ n ∧ n ≤ 1000000) (p : Pfx) (hp : OkP p) {v : Value} (hv : m (keyP p) = some v) :
    Calls Tryd.prog 33 #[.pointer (some ⟨g, 0, none⟩), .agg (pfxC p).toArray] w fun e w' => e = .returned (.bool true) ∧ ∃ F', TrMI w' g (mdel m (keyP p)) (n - 1) F' ∧ Ch F w w' ∧ ∀ b ∈ F', b ∈ F ∨ w.heap.size ≤ b := by
  obtain ⟨nd, W⟩ := id h
  refine (trDelI w g nd n F W.t W.g_in W.b_in hn p hp v (by rw [W.val]; exact hv)).mono ?_
  rintro e w' ⟨h1, nd', ht, hv', hb, hc⟩
  refine ⟨h1, _, h.mk' ht (fun κ => ?_) hc (fun κ d hd => .inl (hb κ d hd)), hc, fun b hb => ?_⟩
  · rw [hv', mdel, W.val]
  · rcases List.mem_append.1 hb with h | h
    · exact .inl h
    · exact .inr (newB_ge h).1
end
end Go.Proofs.YtjpiekljjhgmoaaDoor
