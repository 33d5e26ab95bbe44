/- ring.Ring[int]: Push of any slice that lies below the ring. -/
import Derived.Test.YtjchkjaopdhhlaaRingI
import Derived.Test.YtjchkjaopdhhlaaHelpI
namespace Go.Proofs.Ytjchkjaopdhhlaa
open Go.RowKit

theorem ringIPushZ (w : World) (g b c : Nat) (xs : List Int) (h : ringIAt w g b c xs) (A : Option Addr) (cap : Nat) :
    Calls Try.prog 41 #[.pointer (some ⟨g, 0, none⟩), .slice A 0 cap] w fun e w' => e = .returned (.int .i64 0) ∧ ringIAt w' g b c xs ∧ Ch [g, b] w w' := by
  have HX := hid h
  clear h
  go_enter Try.func41, Try.ntmps41
  go_wp2_with ((go_at_call 46; with_reducible refine (ringIFree _ g b c xs HX.out).mono ?_; generalize c - xs.length = F; rintro e w' ⟨rfl, q, rfl⟩))
  go_loopw [7, 17] (fun _ i wr => i = .int .i64 0 ∧ Hid (wr = w.drewN q)) (fun _ i _ => 0)
  case atStart => exact ⟨rfl, rfl⟩
  case round =>
    obtain ⟨rfl, hw⟩ := hrel
    go_wp2
    go_ret
    exact ⟨rfl, HX.out.heap (by rw [hw.out]; rfl), by rw [hw.out]; exact (Ch.refl _ _).drewN _⟩

theorem ringIPushL (w : World) (g b c : Nat) (xs : List Int) (h : ringIAt w g b c xs) (A : Option Addr) (len cap : Nat) (ys : List Int) (B : Nat) (hrd : RdI .i64 w B A len ys) (hBg : B ≤ g) (hBb : B ≤ b) (hlen : len ≤ cap) (hcap : cap ≤ 9223372036854775807)
    (r : Int) (zs : List Int) (hr : ((min ys.length (c - xs.length) : Nat) : Int) = r) (hz : xs ++ ys.take (c - xs.length) = zs) :
    Calls Try.prog 41 #[.pointer (some ⟨g, 0, none⟩), .slice A len cap] w fun e w' => e = .returned (.int .i64 r) ∧ ringIAt w' g b c zs ∧ Ch [g, b] w w' := by
  have hyl := hrd.1
  rcases Nat.eq_zero_or_pos len with h0 | hp
  · subst h0
    obtain rfl : ys = [] := List.eq_nil_of_length_eq_zero hyl
    simp at hr hz
    subst hr; subst hz
    exact ringIPushZ w g b c xs h A cap
  · obtain ⟨b', off, rfl, hb', _⟩ := hrd.2 hp
    have hl := h.lt
    exact ringIPushAs w g b c xs h _ len cap ys (hrd.more (by omega)) (by simp [blkOf]; omega) hlen hcap r zs hr hz
end Go.Proofs.Ytjchkjaopdhhlaa
