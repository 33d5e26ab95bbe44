/- The last of the statements about layer 13 (budget). -/
import Derived.Test.YtjchkjaopdhhlaaLawBudget
namespace Go.Proofs.Ytjchkjaopdhhlaa
open Go.ChangeShapes Go.WideShapes Go.ChangeAt Go.RowKit

theorem Bud.at_at (s : Bud) (t : Int) : (s.at_ t).at_ t = s.at_ t ∧ (s.at_ t).n = s.n ∧ (s.at_ t).width = s.width := by
  unfold Bud.at_
  by_cases h : winT t s.width > s.window
  · rw [if_pos h]; simp
  · rw [if_neg h]; simp [h]
theorem Bud.at_used (s : Bud) (t x : Int) : ({ s.at_ t with used := x } : Bud).at_ t = { s.at_ t with used := x } := by
  unfold Bud.at_
  by_cases h : winT t s.width > s.window
  · rw [if_pos h]; simp
  · rw [if_neg h]; simp only; rw [if_neg h]
theorem Bud.left_rng {s : Bud} (hs : s.Ok) (t : Int) (h0 : 0 ≤ t) (h1 : t ≤ 18446744073709551615) : 0 ≤ s.left t ∧ s.left t ≤ s.n := by
  have ha := Bud.at_ok hs t h0 h1
  have h2 := ha.u0; have h3 := ha.u1
  have h4 := (s.at_at t).2.1
  unfold Bud.left
  omega
theorem Bud.grants_of_left {s : Bud} (t : Int) (h : 0 < s.left t) : s.grants t = true ∧ (s.next t).left t = s.left t - 1 := by
  have hg : s.grants t = true := by
    unfold Bud.left at h
    unfold Bud.grants
    simp; omega
  refine ⟨hg, ?_⟩
  have e : s.next t = { s.at_ t with used := (s.at_ t).used + 1 } := by rw [Bud.next, hg]; rfl
  rw [e]
  unfold Bud.left
  rw [s.at_used t]
  simp only; omega
theorem Bud.none_left {s : Bud} (t : Int) (h : s.left t = 0) : s.grants t = false ∧ (s.next t).left t = 0 := by
  have hg : s.grants t = false := by
    unfold Bud.left at h
    unfold Bud.grants
    simp; omega
  refine ⟨hg, ?_⟩
  have e : s.next t = s.at_ t := by rw [Bud.next, hg]; rfl
  rw [e]
  unfold Bud.left
  rw [(s.at_at t).1]
  exact h
theorem Bud.next_n (s : Bud) (t : Int) : (s.next t).n = s.n := by
  unfold Bud.next
  split
  · exact (s.at_at t).2.1
  · exact (s.at_at t).2.1

/-- A budget of limit K in its block. -/
def Held (K : Int) (g : Nat) (s : Bud) (w : World) : Prop := s.Ok ∧ s.n = K ∧ Blk w g 71 s.cells

set_option maxRecDepth 100000 in
set_option maxHeartbeats 1000000 in
theorem budgetRemainingIsExact_came {H : Type} {enc : TypeId × Value → H} (W : World) (args : Array Value) (ds : List (DataW H)) (h : Came enc Try.prog Try.f10 W args ds) :
    Calls Try.prog 10 args W fun e W' => e = .returned (.bool true) ∧ Below W.heap.size W W' := by
  obtain ⟨v0, v1, v2, v3, d0, d1, d2, d3, rfl, a0, a1, a2, a3⟩ := h.args4 rfl
  obtain ⟨n, rfl, hn, hn'⟩ := a0.i64 Try.underlying3
  obtain ⟨wd, rfl, hw, hw'⟩ := a1.u64 Try.underlying22
  obtain ⟨us, rfl, hu, hu'⟩ := a2.i64 Try.underlying3
  obtain ⟨t, rfl, ht, ht'⟩ := a3.u64 Try.underlying22
  clear h a0 a1 a2 a3
  obtain ⟨m0, m1⟩ := modI_rng n 40 (by omega)
  obtain ⟨p0, p1⟩ := modI_rng us 50 (by omega)
  have hwd : 0 ≤ wd % 50 ∧ wd % 50 < 50 := by omega
  have hB := hid (Blk.new W 71 (Bud.cells ⟨modI n 40, 1 + wd % 50, 0, 0⟩))
  have k1 : Bud.Ok ⟨modI n 40, 1 + wd % 50, 0, 0⟩ := by constructor <;> simp <;> omega
  go_enter Try.func10, Try.ntmps10
  go_wp2_with fail
  refine (genMod _ _ _ (by omega) (by omega)).mono ?_
  rintro e w' ⟨rfl, rfl⟩
  go_wp2_with fail
  refine (budNew_ok _ _ _ (by omega) (by omega) (by omega) (by omega)).mono ?_
  rintro e w' ⟨rfl, rfl⟩
  go_wp2_with fail
  go_loopw [13] (fun i wr => ∃ (k : Int) (s : Bud), 0 ≤ k ∧ k ≤ 50 ∧ i = .int .i64 k ∧ Held (modI n 40) W.heap.size s wr ∧ Below W.heap.size W wr) (fun i _ => (50 - intOf i).toNat)
  case atStart => exact ⟨0, _, by omega, by omega, rfl, ⟨k1, rfl, hB.out⟩, (Below.refl _ _).alloc (Nat.le_refl _) _⟩
  case round =>
    obtain ⟨k, s, hk0, hk1, rfl, ⟨hs, hn1, hP⟩, hbW⟩ := hrel
    have HN := hid hn1
    clear hn1
    by_cases hl1 : k < modI us 50
    · go_wp2_with (first
        | (go_at_call 31; with_reducible refine (genMod _ _ _ ?_ ?_).mono ?_; omega; omega; rintro e w' ⟨rfl, rfl⟩)
        | (go_at_call 33; with_reducible refine (budCharge _ s _ _ ?_ hs ?_ ?_).mono ?_; exact hP; omega; omega; rintro e w1 ⟨rfl, B1, C1⟩))
      go_roundw
      case rel => exact ⟨k + 1, _, by omega, by omega, rfl, ⟨Bud.next_ok hs _ (by omega) (by omega), (Bud.next_n _ _).trans HN.out, B1⟩, Below.ch hbW C1 (by simp) hbW.size⟩
      case measure => simp [intOf]; omega
    · obtain ⟨l0, l1⟩ := Bud.left_rng hs t ht ht'
      rw [HN.out] at l1
      go_wp2_with (first
        | (go_at_call 31; with_reducible refine (genMod _ _ _ ?_ ?_).mono ?_; omega; omega; rintro e w' ⟨rfl, rfl⟩)
        | (go_at_call 30; with_reducible refine (budRemaining _ s _ _ ?_ hs ?_ ?_).mono ?_; exact hP.heap rfl; omega; omega; rintro e w' ⟨rfl, q, rfl⟩))
      generalize hL : s.left t = L at *
      have HL := hid hL
      clear hL
      go_loopw [15] (fun i wx => ∃ (k : Int) (s : Bud), 0 ≤ k ∧ k ≤ L ∧ i = .int .i64 k ∧ s.left t = L - k ∧ Held (modI n 40) W.heap.size s wx ∧ Below W.heap.size W wx) (fun i _ => (L - intOf i).toNat)
      case atStart => exact ⟨0, s, by omega, by omega, rfl, by rw [HL.out]; omega, ⟨hs, HN.out, hP.heap rfl⟩, Below.drewN hbW _⟩
      case round =>
        clear hP hbW hs HL HN
        obtain ⟨k, s, hk0, hk1, rfl, hl, ⟨hs, hn1, hP⟩, hbW⟩ := hrel
        have HN := hid hn1
        clear hn1
        have HLL := hid hl
        clear hl
        by_cases hlt : k < L
        · have hG := hid (Bud.grants_of_left (s := s) t (by rw [HLL.out]; omega))
          go_wp2_with (first
            | (go_at_call 30; with_reducible refine (budRemainingAs _ s _ _ _ ?_ hs ?_ ?_ HLL.out).mono ?_; exact hP; omega; omega; rintro e w1 ⟨rfl, B1, C1⟩)
            | (go_at_call 33; with_reducible refine (budChargeAs _ s _ true _ _ ?_ hs ?_ ?_ hG.out.1 rfl).mono ?_; exact B1; omega; omega; rintro e w2 ⟨rfl, B2, C2⟩))
          go_roundw
          case rel => exact ⟨k + 1, _, by omega, by omega, rfl, by rw [hG.out.2, HLL.out]; omega, ⟨Bud.next_ok hs _ (by omega) (by omega), (Bud.next_n _ _).trans HN.out, B2⟩, Below.ch (Below.ch hbW C1 (by simp) hbW.size) C2 (by simp) (by have := hbW.size; have := C1.size; omega)⟩
          case measure => simp [intOf]; omega
        · have hG := hid (Bud.none_left (s := s) t (by rw [HLL.out]; omega))
          go_wp2_with (first
            | (go_at_call 27; with_reducible refine (budAwake _).mono ?_; rintro e w0 ⟨rfl, hb0⟩; have B0 := hP.below hb0 hP.lt)
            | (go_at_call 33; with_reducible refine (budChargeAs _ s _ false _ _ ?_ hs ?_ ?_ hG.out.1 rfl).mono ?_; exact B0; omega; omega; rintro e w2 ⟨rfl, B2, C2⟩)
            | (go_at_call 30; with_reducible refine (budRemainingAs _ _ 0 _ _ ?_ ?_ ?_ ?_ hG.out.2).mono ?_; exact B2; exact Bud.next_ok hs _ ht ht'; omega; omega; rintro e w1 ⟨rfl, B1, C1⟩))
          go_ret
          exact ⟨rfl, Below.ch (Below.ch (hbW.trans (hb0.mono hbW.size)) C2 (by simp) (by have := hbW.size; have := hb0.size; omega)) C1 (by simp) (by have := hbW.size; have := hb0.size; have := C2.size; omega)⟩
end Go.Proofs.Ytjchkjaopdhhlaa
