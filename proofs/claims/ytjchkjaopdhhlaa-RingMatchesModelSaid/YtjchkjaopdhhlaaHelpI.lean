/- ginnelhelp.WithSpare, Unchanged and Overwrite at int. -/
import Derived.Test.YtjchkjaopdhhlaaHelpEqI
namespace Go.Proofs.Ytjchkjaopdhhlaa
open Go.RowKit

theorem RdI.front {k : IntKind} {w : World} {B n m : Nat} {A : Option Addr} {xs ys : List Int} (h : RdI k w B A (n + m) (xs ++ ys)) (hn : xs.length = n) : RdI k w B A n xs :=
  ⟨hn, fun hp => by
    obtain ⟨b, off, e, hB, hc⟩ := h.2 (by omega)
    exact ⟨b, off, e, hB, fun i hi => (hc i (by omega)).trans (by simp [Go.Proofs.Ytjchkjaopdhhlaa.at_, List.getD, List.getElem?_append_left (show i < xs.length by omega)])⟩⟩
theorem RdI.take {k : IntKind} {w : World} {B n : Nat} {A : Option Addr} {xs : List Int} (h : RdI k w B A n xs) (m : Nat) (hm : m ≤ n) : RdI k w B A m (xs.take m) := by
  refine RdI.front (m := n - m) (ys := xs.drop m) (w := w) ?_ (by simp; have := h.1; omega)
  rw [List.take_append_drop, show m + (n - m) = n by omega]; exact h
theorem Own.frozen {w : World} {B n c size : Nat} {e : TypeId} {g off : Nat} {xs : List Value} (h : Own w B e size (some ⟨g, off, none⟩) n c xs) (i : Nat) : w.frozen? ⟨g, i, none⟩ = false := by
  rcases h.2 with ⟨h0, _⟩ | ⟨g', cap, cur, hv, _, hh, _⟩
  · simp at h0
  · simp only [Value.slice.injEq, Option.some.injEq, Addr.mk.injEq] at hv
    obtain ⟨⟨rfl, _⟩, _⟩ := hv
    simp [World.frozen?, hh]
theorem Own.setAt {w : World} {B n c size : Nat} {e : TypeId} {A : Option Addr} {g : Nat} {xs : List Value} (h : Own w B e size A n c xs) (hA : A = some ⟨g, 0, none⟩) (j : Nat) (u : Value) : Own (w.setCell ⟨g, j, none⟩ u) B e size A n c (xs.set j u) := by
  subst hA; exact h.set j u

theorem helpISpare_info : (Try.prog.info? 3).map (fun i => (i.zero, i.size, i.bytes)) = some (some (.int .i64 0), 1, 8) := by kernel_rfl

theorem eqISame (w : World) (A A' : Option Addr) (len cap len' cap' : Nat) (ys : List Int) (B B' : Nat) (h : RdI .i64 w B A len ys) (h' : RdI .i64 w B' A' len' ys) (hl : len ≤ 9223372036854775807) (hl' : len' ≤ 9223372036854775807) :
    Calls Try.prog 42 #[.slice A len cap, .slice A' len' cap'] w fun e w' => e = .returned (.bool true) ∧ ∃ n, w' = w.drewN n :=
  (eqIEqual w A A' len cap len' cap' ys ys B B' h h' hl hl').mono fun e w' h => by simpa using h

set_option maxHeartbeats 1000000 in
theorem helpISpare (w : World) (A : Option Addr) (len cap : Nat) (ys : List Int) (f : Int) (B : Nat) (h : RdI .i64 w B A len ys) (hB : B ≤ w.heap.size) (hl : len * 8 ≤ 140737488351232) :
    Calls Try.prog 48 #[.slice A len cap, .int .i64 f] w fun e w' => ∃ A2 cc, e = .returned (.slice A2 len (len + 3)) ∧ Own w' w.heap.size 3 1 A2 (len + 3) cc ((ys ++ [f, f, f]).map (Value.int .i64)) ∧ Ch [] w w' := by
  go_enter Try.func48, Try.ntmps48
  go_wp2_with (first
    | (at_builtin; refine wpList_app _ rfl (.tmp 9) (.tmp 13) _ rfl w.heap.size 3 _ 1 8 Try.underlying58 helpISpare_info rfl (by omega) _ _ _ _ rfl (own2.alloc (.cells #[.int .i64 f, .int .i64 f, .int .i64 f] 3)) _ _ _ _ [.int .i64 f, .int .i64 f, .int .i64 f] rfl (Rd.new w2 1 [.int .i64 f, .int .i64 f, .int .i64 f] 3 rfl 3) (by simp [Value.oneCell']) (by unfold maxLen; omega) (by omega) (by have := ch2.size; simp only [World.size_alloc] at this ⊢; omega) ?_; intro A3 c3 w3 own4 ch3 at3; have hcap := own4.cap; unfold maxLen at hcap)
    | (at_builtin; go_must (refine wpList_app _ rfl (.tmp 6) (.tmp 7) _ rfl w.heap.size 3 _ 1 8 Try.underlying58 helpISpare_info rfl (by omega) _ _ _ [] rfl (Own.new w w.heap.size 3 1 [] 0 (by omega) (by unfold maxLen; omega) rfl) _ _ _ _ (ys.map (Value.int .i64)) rfl (h.ch ((Ch.refl [] w).alloc _) hB (by simp)).rd (by simp [Value.oneCell']) (by unfold maxLen; omega) (by omega) (by simp) ?_; intro A2 c2 w2 own2 ch2 at2); simp only [Nat.zero_add, List.nil_append] at own2))
  have C2 : Ch [] w w2 := ((Ch.refl [] w).alloc _).step ch2 (by simp [blkOf])
  go_ret
  refine ⟨A3, c3, ?_, ?_, (C2.alloc _).step ch3 (fun i hi => .inr (own2.blks i hi).1)⟩
  · rfl
  · simpa using own4
set_option maxHeartbeats 1000000 in
theorem helpISame (w : World) (A A' : Option Addr) (len cap cap' : Nat) (ys : List Int) (f : Int) (B B' : Nat) (h : RdI .i64 w B A (len + 3) (ys ++ [f, f, f])) (h' : RdI .i64 w B' A' len ys) (hc : len + 3 ≤ cap) (hm : cap ≤ 9223372036854775807) :
    Calls Try.prog 49 #[.slice A len cap, .slice A' len cap', .int .i64 f] w fun e w' => e = .returned (.bool true) ∧ ∃ n, w' = w.drewN n := by
  have hy := h'.1
  have h0 := h.front hy
  go_enter Try.func49, Try.ntmps49
  go_wp2_with (go_at_call 42; go_must (with_reducible refine (eqISame _ _ _ _ _ _ _ ys _ _ h0 h' (by omega) (by omega)).mono ?_; rintro e w' ⟨rfl, n, rfl⟩))
  go_loopw [8] (fun i wr => ∃ k : Nat, len ≤ k ∧ k ≤ len + 3 ∧ i = .int .i64 k ∧ wr = w.drewN n) (fun i _ => len + 3 - (intOf i).toNat)
  case atStart => exact ⟨len, by omega, by omega, rfl, rfl⟩
  case round =>
    obtain ⟨k, hk0, hk, rfl, rfl⟩ := hrel
    by_cases hlt : k < len + 3
    · obtain ⟨b, off, rfl, _, hcell⟩ := h.at_ hlt
      have hv : at_ (ys ++ [f, f, f]) k = f := by
        simp only [at_, List.getD]
        rw [List.getElem?_append_right (by omega), hy]
        obtain h1 | h1 | h1 : k - len = 0 ∨ k - len = 1 ∨ k - len = 2 := by omega
        all_goals rw [h1]; rfl
      rw [hv] at hcell
      have hne : (f != f) = false := by simp
      clear hv
      go_wp2
      go_roundw
      case rel => exact ⟨k + 1, by omega, by omega, by go_num, by trivial⟩
      case measure => simp [intOf]; omega
    · obtain rfl : k = len + 3 := by omega
      go_wp2
      go_ret
      exact ⟨rfl, n, rfl⟩
set_option maxHeartbeats 1000000 in
/-- The first m elements of an own slice are set to 0. -/
theorem helpIZero (w : World) (B : Nat) (A : Option Addr) (m cap n c : Nat) (ys : List Int) (h : Own w B 3 1 A n c (ys.map (Value.int .i64))) (hm : m ≤ n) :
    Calls Try.prog 50 #[.slice A m cap] w fun e w' => e = .returned (.tuple #[]) ∧ Ch (blkOf A) w w' := by
  have hcap := h.cap
  unfold maxLen at hcap
  have hl := h.len
  simp only [List.length_map] at hl
  go_enter Try.func50, Try.ntmps50
  go_wp2
  go_loopw [3] (fun i wr => ∃ (k : Nat) (zs : List Int), k ≤ m ∧ i = .int .i64 k ∧ Hid (zs.length = n) ∧ Own wr B 3 1 A n c (zs.map (Value.int .i64)) ∧ Ch (blkOf A) w wr) (fun i _ => m - (intOf i).toNat)
  case atStart => exact ⟨0, ys, by omega, rfl, by show _ = _; omega, h, Ch.refl _ _⟩
  case round =>
    obtain ⟨k, zs, hk, rfl, hz, hown, hch⟩ := hrel
    by_cases hlt : k < m
    · obtain ⟨g, rfl, _, hg⟩ := hown.form (by omega)
      have ff := hown.frozen k
      have cc0 := (Rd.ints hown.rd).2 (by omega)
      obtain ⟨b, off, hbo, _, hcell⟩ := cc0
      simp only [Option.some.injEq, Addr.mk.injEq] at hbo
      obtain ⟨rfl, rfl, _⟩ := hbo
      have hck := hcell k (by omega)
      simp only [Nat.zero_add] at hck
      clear hcell
      go_wp2
      go_roundw
      case rel => exact ⟨k + 1, zs.set k 0, by omega, by go_num, by show _ = _; rw [List.length_set]; exact hz.out, by rw [List.map_set]; exact hown.set k _, hch.setCell (.inl (by simp [blkOf])) _⟩
      case measure => simp [intOf]; omega
    · obtain rfl : k = m := by omega
      go_wp2
      go_end0
      exact ⟨rfl, hch⟩
end Go.Proofs.Ytjchkjaopdhhlaa
