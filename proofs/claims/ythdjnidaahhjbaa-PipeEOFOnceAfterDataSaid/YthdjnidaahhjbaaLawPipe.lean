/- Statements about layer 30 (pipe): for every input the law returns true and turns nothing that was there. -/
import Derived.Test.YthdjnidaahhjbaaRows
import Derived.Test.YthdjnidaahhjbaaPipe
import Derived.Test.YthdjnidaahhjbaaRefPipe
import Derived.Test.YthdjnidaahhjbaaGen
import Derived.Test.YthdjnidaahhjbaaShell
import Derived.Test.YthdjnidaahhjbaaArgs
namespace Go.Proofs.Ythdjnidaahhjbaa
open Go.ChangeShapes Go.WideShapes Go.ChangeAt Go.RowKit

section
variable (w : World) (p g b c : Nat) (xs : List Int) (cr : Int) (cl dr : Bool) (h : pipeAt w p g b c xs cr cl dr)
include h
theorem pipeReadAs (n : Nat) (hn : min cr.toNat xs.length = n) (S : ByteArray) (e : Bool) (ys : List Int) (cr' : Int) (dr' : Bool) (hS : strOfNums (xs.take n) = S) (he : (cl && decide (xs.length ≤ n) && !dr) = e) (hy : xs.drop n = ys) (hc : cr - n = cr') (hd : (dr || e) = dr') :
    Calls Try.prog 13 #[.pointer (some ⟨p, 0, none⟩)] w fun r w' => r = .returned (.tuple #[.string S, .bool e]) ∧ pipeAt w' p g b c ys cr' cl dr' ∧ Ch [g, b, p] w w' := by
  subst hn; subst hS; subst he; subst hy; subst hc; subst hd
  exact pipeRead w p g b c xs cr cl dr h
theorem pipeWriteAs (s : ByteArray) (hs : s.size ≤ maxLen) (hcl : cl = false) (n : Nat) (hn : min s.size (c - xs.length) = n) (ys : List Int) (hy : xs ++ (numsOf s).take n = ys) :
    Calls Try.prog 11 #[.pointer (some ⟨p, 0, none⟩), .string s] w fun e w' => e = .returned (.int .i64 n) ∧ pipeAt w' p g b c ys cr false dr ∧ Ch [g, b] w w' := by
  subst hn; subst hy
  have e : (numsOf s).take (min s.size (c - xs.length)) = (numsOf s).take (c - xs.length) := by
    rcases Nat.le_total s.size (c - xs.length) with h1 | h1
    · rw [Nat.min_eq_left h1, List.take_of_length_le (by rw [numsOf_length]; omega), List.take_of_length_le (by rw [numsOf_length]; omega)]
    · rw [Nat.min_eq_right h1]
  rw [e]
  exact pipeWrite_open w p g b c xs cr cl dr h s hs hcl
theorem pipeCloseAs (e : Bool) (he : (!cl) = e) : Calls Try.prog 12 #[.pointer (some ⟨p, 0, none⟩)] w fun r w' => r = .returned (.bool e) ∧ pipeAt w' p g b c xs cr true dr ∧ Ch [p] w w' := by
  subst he; exact pipeCloseWrite w p g b c xs cr cl dr h
theorem pipeAddAs (n : Int) (h0 : 0 ≤ n) (h1 : n ≤ 18446744073709551615) (cr' : Int) (hc : addT cr n = cr') : Calls Try.prog 15 #[.pointer (some ⟨p, 0, none⟩), .int .u64 n] w fun e w' => e = .returned (.tuple #[]) ∧ pipeAt w' p g b c xs cr' cl dr ∧ Ch [p] w w' := by
  subst hc; exact pipeAddCredit w p g b c xs cr cl dr h n h0 h1
end

theorem pipeAwake (w : World) : Calls Try.prog 16 #[] w fun e w' => e = .returned (.bool true) ∧ Below w.heap.size w w' := by
  go_enter Try.func16, Try.ntmps16
  go_wp2_with fail
  refine (pipeNew_as 4 4 rfl _ (by omega) (by omega)).mono ?_
  rintro e w1 ⟨p, rfl, hp, R1, C1⟩
  go_wp2_with fail
  refine (pipeNew_bad 0 _ (by omega)).mono ?_
  rintro e w' ⟨rfl, rfl⟩
  have hz1 := C1.size
  have hl1 := R1.lt
  have b1 := C1.nil_below
  go_wp2_with fail
  refine (pipeWriteAs _ p _ _ 4 [] 0 false false R1 ⟨#[97, 98, 99, 100, 101]⟩ (by unfold maxLen; decide) rfl 4 rfl [97, 98, 99, 100] rfl).mono ?_
  rintro e w2 ⟨rfl, R2, C2⟩
  have hz2 := C2.size
  have b2 := Below.ch b1 C2 (by simp) (by omega)
  go_wp2_with fail
  refine (pipeAddAs _ p _ _ 4 _ 0 false false R2 3 (by omega) (by omega) 3 rfl).mono ?_
  rintro e w3 ⟨rfl, R3, C3⟩
  have hz3 := C3.size
  have b3 := Below.ch b2 C3 (by simp; omega) (by omega)
  go_wp2_with fail
  refine (pipeReadAs _ p _ _ 4 _ 3 false false R3 3 rfl ⟨#[97, 98, 99]⟩ false [100] 0 false rfl rfl rfl rfl rfl).mono ?_
  rintro e w4 ⟨rfl, R4, C4⟩
  have hz4 := C4.size
  have b4 := Below.ch b3 C4 (by simp; omega) (by omega)
  go_wp2_with fail
  refine (pipeCloseAs _ p _ _ 4 _ 0 false false R4 true rfl).mono ?_
  rintro e w5 ⟨rfl, R5, C5⟩
  have hz5 := C5.size
  have b5 := Below.ch b4 C5 (by simp; omega) (by omega)
  go_wp2_with fail
  refine (pipeAddAs _ p _ _ 4 _ 0 true false R5 9 (by omega) (by omega) 9 rfl).mono ?_
  rintro e w6 ⟨rfl, R6, C6⟩
  have hz6 := C6.size
  have b6 := Below.ch b5 C6 (by simp; omega) (by omega)
  go_wp2_with fail
  refine (pipeReadAs _ p _ _ 4 _ 9 true false R6 1 rfl ⟨#[100]⟩ true [] 8 true rfl rfl rfl rfl rfl).mono ?_
  rintro e w7 ⟨rfl, R7, C7⟩
  have hz7 := C7.size
  have b7 := Below.ch b6 C7 (by simp; omega) (by omega)
  go_wp2_with fail
  refine (pipeReadAs _ p _ _ 4 _ 8 true true R7 0 rfl ⟨#[]⟩ false [] 8 true rfl rfl rfl rfl rfl).mono ?_
  rintro e w8 ⟨rfl, R8, C8⟩
  have hz8 := C8.size
  have b8 := Below.ch b7 C8 (by simp; omega) (by omega)
  go_wp2_with (first
    | (go_at_call 14; go_must (refine (pipeDrained _ p _ _ 4 _ 8 true true R8).mono ?_; rintro e w' ⟨rfl, rfl⟩))
    | (go_at_call 20; go_must (refine (pipeClosed _ p _ _ 4 _ 8 true true R8).mono ?_; rintro e w' ⟨rfl, rfl⟩))
    | (go_at_call 11; go_must (refine (pipeWrite_shut _ p _ _ 4 _ 8 true true R8 _ rfl).mono ?_; rintro e w' ⟨rfl, rfl⟩)))
  go_ret
  exact ⟨rfl, b8⟩

theorem pipeValidatesCapacity_came {H : Type} {enc : TypeId × Value → H} (W : World) (args : Array Value) (ds : List (DataW H)) (h : Came enc Try.prog Try.f4 W args ds) :
    Calls Try.prog 4 args W fun e W' => e = .returned (.bool true) ∧ Below W.heap.size W W' := by
  obtain ⟨v0, d0, rfl, a0⟩ := h.args1 rfl
  obtain ⟨n, rfl, hn, hn'⟩ := a0.i64 Try.underlying3
  clear h a0
  by_cases hv : 1 ≤ n ∧ n ≤ 4096
  · obtain ⟨h1, h2⟩ := hv
    obtain ⟨c, rfl⟩ := Int.eq_ofNat_of_zero_le (show 0 ≤ n by omega)
    go_enter Try.func4, Try.ntmps4
    go_wp2_with fail
    refine (pipeNew_as c c rfl _ (by omega) (by omega)).mono ?_
    rintro e w1 ⟨p, rfl, hp, R1, C1⟩
    have hl1 := R1.lt
    go_wp2_with fail
    refine (pipeAwake _).mono ?_
    rintro e w2 ⟨rfl, hb2⟩
    have R2 := R1.below hb2 hl1.1 hl1.2.1 hl1.2.2.1
    have c0 : w2.cell? ⟨p, 0, none⟩ = some (.pointer (some ⟨W.heap.size + 1, 0, none⟩)) := R2.blk.cell 0
    go_wp2_with (first
      | (go_at_call 18; go_must (refine (ringBFreeAs _ _ _ c [] R2.ring c (by simp)).mono ?_; rintro e w3 ⟨rfl, q, rfl⟩))
      | (go_at_call 17; go_must ((with_reducible refine (ringBLenAs _ _ W.heap.size c [] ?_ 0 rfl).mono ?_); exact R2.ring.heap rfl; rintro e w' ⟨rfl, rfl⟩))
      | (go_at_call 19; go_must ((with_reducible refine (pipeCredit _ p (W.heap.size + 1) W.heap.size c [] 0 false false ?_).mono ?_); exact R2.heap rfl; rintro e w' ⟨rfl, rfl⟩))
      | (go_at_call 20; go_must ((with_reducible refine (pipeClosed _ p (W.heap.size + 1) W.heap.size c [] 0 false false ?_).mono ?_); exact R2.heap rfl; rintro e w' ⟨rfl, rfl⟩))
      | (go_at_call 14; go_must ((with_reducible refine (pipeDrained _ p (W.heap.size + 1) W.heap.size c [] 0 false false ?_).mono ?_); exact R2.heap rfl; rintro e w' ⟨rfl, rfl⟩)))
    go_ret
    exact ⟨rfl, Below.drewN (C1.nil_below.trans (hb2.mono C1.size)) _⟩
  · by_cases hv1 : 1 ≤ n
    · have hv2 : 4096 < n := by omega
      go_enter Try.func4, Try.ntmps4
      go_wp2_with fail
      refine (pipeNew_bad n _ (by omega)).mono ?_
      rintro e w' ⟨rfl, rfl⟩
      go_wp2_with fail
      refine (pipeAwake _).mono ?_
      rintro e w2 ⟨rfl, hb2⟩
      go_wp2_with fail
      go_ret
      exact ⟨rfl, hb2⟩
    · have hv2 : n < 1 := by omega
      go_enter Try.func4, Try.ntmps4
      go_wp2_with fail
      refine (pipeNew_bad n _ (by omega)).mono ?_
      rintro e w' ⟨rfl, rfl⟩
      go_wp2_with fail
      refine (pipeAwake _).mono ?_
      rintro e w2 ⟨rfl, hb2⟩
      go_wp2_with fail
      go_ret
      exact ⟨rfl, hb2⟩
end Go.Proofs.Ythdjnidaahhjbaa
