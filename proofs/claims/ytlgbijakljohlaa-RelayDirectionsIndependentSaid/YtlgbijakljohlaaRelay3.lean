/- relay.New: what it computes. -/
import Derived.Test.YtlgbijakljohlaaRelay
namespace Go.Proofs.Ytlgbijakljohlaa
open Go.RowKit

set_option maxHeartbeats 1000000 in
theorem relayNew (n : Int) (c : Nat) (hn : n = c) (w : World) (h0 : 1 ≤ c) (h1 : c ≤ 4096) :
    Calls Try.prog 6 #[.int .i64 n] w fun e w' => ∃ B1 B2 : PB, e = .returned (.tuple #[.pointer (some ⟨w.heap.size, 0, none⟩), .int .i64 0]) ∧ relayAt w' w.heap.size c B1 B2 ⟨[], 0, false, false⟩ ⟨[], 0, false, false⟩ ∧ Ch [] w w' := by
  have HN := hid hn
  clear hn
  go_enter Try.func6, Try.ntmps6
  go_wp2
  go_loopw [10] (fun i wr => w.heap.size < wr.heap.size ∧ Ch [] w wr ∧
    (i = .int .i64 0 ∧ Hid (Blk wr w.heap.size 57 [.pointer none, .pointer none]) ∨
     i = .int .i64 1 ∧ Hid (∃ B1 : PB, Blk wr w.heap.size 57 [.pointer (some ⟨B1.p, 0, none⟩), .pointer none] ∧ pAt wr B1 c ⟨[], 0, false, false⟩ ∧ w.heap.size < B1.p ∧ w.heap.size < B1.g ∧ w.heap.size < B1.b) ∨
     i = .int .i64 2 ∧ Hid (∃ B1 B2 : PB, relayAt wr w.heap.size c B1 B2 ⟨[], 0, false, false⟩ ⟨[], 0, false, false⟩))) (fun i _ => 3 - (intOf i).toNat)
  case atStart => exact ⟨by simp, (Ch.refl _ _).alloc _, .inl ⟨rfl, Blk.new w 57 [.pointer none, .pointer none]⟩⟩
  case round =>
    obtain ⟨hz, C, hi⟩ := hrel
    rcases hi with ⟨rfl, HB⟩ | ⟨rfl, HB⟩ | ⟨rfl, HB⟩
    · go_wp2_with (go_at_call 24; go_must ((with_reducible refine (pNew _ c HN.out _ h0 h1).mono ?_); rintro e w2 ⟨B, rfl, p1, p2, p3, R, C2⟩; have B2 := HB.out.ch C2 (by simp); have f0 := B2.cell 0; have g0 := B2.frozen 0; have hl := R.lt; have K2 := C2.size))
      go_roundw
      case rel =>
        have C3 : Ch [w.heap.size] w2 (w2.setCell ⟨w.heap.size, 0, none⟩ (.pointer (some ⟨B.p, 0, none⟩))) := (Ch.refl _ _).setCell (.inl (by simp)) _
        exact ⟨by simp; omega, (C.trans C2).step C3 (fun i hi => .inr (by simp at hi; omega)), .inr (.inl ⟨rfl, hid ⟨B, B2.set 0 _, R.ch C3 (by simp; omega) (by simp; omega) (by simp; omega), by omega, by omega, by omega⟩⟩)⟩
      case measure => simp [intOf]
    · obtain ⟨B1, HB1, R1, q1, q2, q3⟩ := HB.out
      have hl1 := R1.lt
      go_wp2_with (go_at_call 24; go_must ((with_reducible refine (pNew _ c HN.out _ h0 h1).mono ?_); rintro e w2 ⟨B, rfl, p1, p2, p3, R, C2⟩; have B2 := HB1.ch C2 (by simp); have f0 := B2.cell 1; have g0 := B2.frozen 1; have hl := R.lt; have K2 := C2.size))
      go_roundw
      case rel =>
        have C3 : Ch [w.heap.size] w2 (w2.setCell ⟨w.heap.size, 1, none⟩ (.pointer (some ⟨B.p, 0, none⟩))) := (Ch.refl _ _).setCell (.inl (by simp)) _
        exact ⟨by simp; omega, (C.trans C2).step C3 (fun i hi => .inr (by simp at hi; omega)), .inr (.inr ⟨rfl, hid ⟨B1, B, ⟨B2.set 1 _, (R1.ch C2 (by simp) (by simp) (by simp)).ch C3 (by simp; omega) (by simp; omega) (by simp; omega), R.ch C3 (by simp; omega) (by simp; omega) (by simp; omega), by unfold relSep; omega⟩⟩⟩)⟩
      case measure => simp [intOf]
    · obtain ⟨B1, B2, HR⟩ := HB.out
      go_wp2
      go_ret2
      exact ⟨B1, B2, rfl, HR, C⟩

theorem relayNew_bad (n : Int) (w : World) (h : n < 1 ∨ 4096 < n) :
    Calls Try.prog 6 #[.int .i64 n] w fun e w' => e = .returned (.tuple #[.pointer none, .int .i64 1]) ∧ Ch [] w w' := by
  go_enter Try.func6, Try.ntmps6
  go_wp2
  go_loopw [10] (fun i wr => Ch [] w wr ∧ i = .int .i64 0) (fun i _ => 3 - (intOf i).toNat)
  case atStart => exact ⟨(Ch.refl _ _).alloc _, rfl⟩
  case round =>
    obtain ⟨C, rfl⟩ := hrel
    go_wp2_with (go_at_call 24; go_must ((with_reducible refine (pipeNew_bad _ _ h).mono ?_); rintro e w2 ⟨rfl, rfl⟩))
    go_ret2
    exact ⟨rfl, C⟩
end Go.Proofs.Ytlgbijakljohlaa
