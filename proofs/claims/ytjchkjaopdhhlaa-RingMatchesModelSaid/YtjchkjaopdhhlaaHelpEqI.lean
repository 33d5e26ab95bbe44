/- ginnelhelp.Equal[int]: whether two slices hold the same numbers. -/
import Derived.Test.YtjchkjaopdhhlaaProg
import Derived.Test.YtjchkjaopdhhlaaBase
import Derived.Test.YtjchkjaopdhhlaaMem
import Derived.Test.YtjchkjaopdhhlaaStages
namespace Go.Proofs.Ytjchkjaopdhhlaa
open Go.RowKit

theorem eqI_eq_of_at {xs ys : List Int} (hl : xs.length = ys.length) (h : ∀ j, j < xs.length → at_ xs j = at_ ys j) : xs = ys := by
  apply List.ext_getElem hl
  intro i h1 h2
  have := h i h1
  simpa [at_, List.getD, h1, h2] using this

theorem eqIOne (x y : Int) (w : World) : Calls Try.prog 55 #[.int .i64 x, .int .i64 y] w fun e w' => e = .returned (.bool (x == y)) ∧ w = w' := by
  go_enter Try.func55, Try.ntmps55
  go_wp2
  go_ret
  exact ⟨rfl, rfl⟩

set_option maxHeartbeats 1000000 in
theorem eqIFunc (w : World) (A A' : Option Addr) (len cap len' cap' : Nat) (xs ys : List Int) (B B' : Nat) (h : RdI .i64 w B A len xs) (h' : RdI .i64 w B' A' len' ys) (hl : len ≤ 9223372036854775807) (hl' : len' ≤ 9223372036854775807) :
    Calls Try.prog 54 #[.slice A len cap, .slice A' len' cap', .func (.func 55) #[] #[]] w fun e w' => e = .returned (.bool (decide (xs = ys))) ∧ ∃ n, w' = w.drewN n := by
  have hx := h.1
  have hy := h'.1
  by_cases hne : len = len'
  · subst hne
    have HX := hid hx
    have HY := hid hy
    clear hx hy
    go_enter Try.func54, Try.ntmps54
    go_wp2
    go_loopw [7] (fun i wr => ∃ k : Nat, k ≤ len ∧ i = .int .i64 k ∧ Hid (∀ j, j < k → at_ xs j = at_ ys j) ∧ Hid (∃ n, wr = w.drewN n)) (fun i _ => len - (intOf i).toNat)
    case atStart => exact ⟨0, Nat.zero_le _, rfl, fun j hj => absurd hj (by omega), ⟨0, rfl⟩⟩
    case round =>
      obtain ⟨k, hk, rfl, hall, hw⟩ := hrel
      have hwh : wr.heap = w.heap := by obtain ⟨n, hn⟩ := hw.out; rw [hn]; rfl
      have hr := h.heap hwh
      have hr' := h'.heap hwh
      clear hwh
      by_cases hlt : k < len
      · obtain ⟨b, off, rfl, _, hc⟩ := hr.at_ hlt
        obtain ⟨b', off', rfl, _, hc'⟩ := hr'.at_ hlt
        have hi : (0 : Int) ≤ k := by omega
        by_cases he : at_ xs k = at_ ys k
        · have heb : (at_ xs k == at_ ys k) = true := by simpa using he
          have HE := hid he
          clear he
          go_wp2
          go_quiet ((go_at_call 55; exact quiet_eq (eqIOne _ _ _)))
          go_wp2
          go_roundw
          case rel =>
            refine ⟨k + 1, by omega, by go_num, ?_, ?_⟩
            · intro j hj
              rcases Nat.lt_or_ge j k with h1 | h1
              · exact hall.out j h1
              · obtain rfl : j = k := by omega
                exact HE.out
            · obtain ⟨n, hn⟩ := hw.out
              exact ⟨_, by rw [hn, World.drewN_drewN]⟩
          case measure => simp [intOf]; omega
        · have heb : (at_ xs k == at_ ys k) = false := by simpa using he
          have HE := hid he
          clear he
          go_wp2
          go_quiet ((go_at_call 55; exact quiet_eq (eqIOne _ _ _)))
          go_wp2
          go_ret
          exact ⟨ret_bool (by simp; intro e; exact HE.out (by rw [e])), by obtain ⟨n, hn⟩ := hw.out; exact ⟨_, by rw [hn, World.drewN_drewN]⟩⟩
      · obtain rfl : k = len := by omega
        go_wp2
        go_ret
        exact ⟨ret_bool (by simp; exact eqI_eq_of_at (by rw [HX.out, HY.out]) (fun j hj => hall.out j (by rw [HX.out] at hj; exact hj))), hw.out⟩
  · have hneb : ((len : Int) != (len' : Int)) = true := by simp; omega
    have HN := hid hne
    have HX := hid hx
    have HY := hid hy
    clear hne hx hy
    go_enter Try.func54, Try.ntmps54
    go_wp2
    go_ret
    exact ⟨ret_bool (by simp; intro e; exact HN.out (by rw [← HX.out, ← HY.out, e])), 0, rfl⟩

theorem eqIEqual (w : World) (A A' : Option Addr) (len cap len' cap' : Nat) (xs ys : List Int) (B B' : Nat) (h : RdI .i64 w B A len xs) (h' : RdI .i64 w B' A' len' ys) (hl : len ≤ 9223372036854775807) (hl' : len' ≤ 9223372036854775807) :
    Calls Try.prog 42 #[.slice A len cap, .slice A' len' cap'] w fun e w' => e = .returned (.bool (decide (xs = ys))) ∧ ∃ n, w' = w.drewN n := by
  go_enter Try.func42, Try.ntmps42
  go_wp2_with (go_at_call 54; go_must (with_reducible refine (eqIFunc _ _ _ _ _ _ _ xs ys _ _ h h' hl hl').mono ?_; rintro e w' ⟨rfl, n, rfl⟩))
  go_ret
  exact ⟨rfl, _, rfl⟩
end Go.Proofs.Ytjchkjaopdhhlaa
