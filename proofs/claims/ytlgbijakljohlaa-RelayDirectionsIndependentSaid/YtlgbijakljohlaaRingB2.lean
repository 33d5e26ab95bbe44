/- ring.Ring[byte]: its contracts, with what comes out given by name. -/
import Derived.Test.YtlgbijakljohlaaRingB
namespace Go.Proofs.Ytlgbijakljohlaa
open Go.RowKit
theorem ringBNew_as (n : Int) (c : Nat) (hn : n = c) (w : World) (h0 : 1 ≤ c) (h1 : c ≤ 4096) :
    Calls Try.prog 36 #[.int .i64 n] w fun e w' => e = .returned (.tuple #[.pointer (some ⟨w.heap.size + 1, 0, none⟩), .int .i64 0]) ∧ ringBAt w' (w.heap.size + 1) w.heap.size c [] ∧ Ch [] w w' := by
  subst hn; exact ringBNew_ok c w h0 h1
theorem ringBPopAs (w : World) (g b c : Nat) (xs : List Int) (h : ringBAt w g b c xs) (n : Int) (D : Nat) (hD : min n.toNat xs.length = D) (ys zs : List Int) (hy : xs.take D = ys) (hz : xs.drop D = zs) :
    Calls Try.prog 39 #[.pointer (some ⟨g, 0, none⟩), .int .i64 n] w fun e w' => ∃ A cc, e = .returned (.slice A D cc) ∧ Own w' w.heap.size 5 1 A D cc (ys.map (Value.int .u8)) ∧ ringBAt w' g b c zs ∧ Ch [g, b] w w' := by
  subst hy; subst hz; subst hD; exact ringBPop w g b c xs h n
theorem ringBPeekAs (w : World) (g b c : Nat) (xs : List Int) (h : ringBAt w g b c xs) (n : Int) (D : Nat) (hD : min n.toNat xs.length = D) (ys : List Int) (hy : xs.take D = ys) :
    Calls Try.prog 35 #[.pointer (some ⟨g, 0, none⟩), .int .i64 n] w fun e w' => ∃ A cc, e = .returned (.slice A D cc) ∧ Own w' w.heap.size 5 1 A D cc (ys.map (Value.int .u8)) ∧ Ch [] w w' := by
  subst hy; subst hD; exact ringBPeek w g b c xs h n
theorem ringBLenAs (w : World) (g b c : Nat) (xs : List Int) (h : ringBAt w g b c xs) (r : Int) (hr : (xs.length : Int) = r) :
    Calls Try.prog 33 #[.pointer (some ⟨g, 0, none⟩)] w fun e w' => e = .returned (.int .i64 r) ∧ w = w' := by
  subst hr; exact ringBLen w g b c xs h
theorem ringBFreeAs (w : World) (g b c : Nat) (xs : List Int) (h : ringBAt w g b c xs) (r : Int) (hr : ((c - xs.length : Nat) : Int) = r) :
    Calls Try.prog 37 #[.pointer (some ⟨g, 0, none⟩)] w fun e w' => e = .returned (.int .i64 r) ∧ ∃ n, w' = w.drewN n := by
  subst hr; exact ringBFree w g b c xs h
end Go.Proofs.Ytlgbijakljohlaa
