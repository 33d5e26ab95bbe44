/- ginnelhelp.Equal[api.Transfer] at two lists of the same transfers. -/
import Derived.Test.YtlgbijakljohlaaTrs
import Derived.Test.YtlgbijakljohlaaStages3
import Derived.ChangeKeysEq
namespace Go.Proofs.Ytlgbijakljohlaa
open Go.RowKit
theorem tr_same (a : Bool) (s : ByteArray) (e : Bool) (w : World) :
    (Op.equalIn 10000 45 (.agg #[.bool a, .string s, .bool e]) (.agg #[.bool a, .string s, .bool e])).run Try.prog w = .ok true w := by
  go_simp
theorem eqTOne (w : World) (a : Bool) (s : ByteArray) (e : Bool) :
    Calls Try.prog 29 #[.agg #[.bool a, .string s, .bool e], .agg #[.bool a, .string s, .bool e]] w fun r w' => r = .returned (.bool true) ∧ Ch [] w w' := by
  have hs := fun W => tr_same a s e W
  go_enter Try.func29, Try.ntmps29
  go_wp2
  go_ret
  exact ⟨rfl, ((Ch.refl _ _).alloc _).alloc _⟩

theorem RdT.ch {w w' : World} {B n : Nat} {A : Option Addr} {ts : List (Bool × ByteArray × Bool)} (h : RdT w B A n ts) (hc : Ch [] w w') (hB : B ≤ w.heap.size) : RdT w' B A n ts := Rd.ch h hc hB (by simp)
theorem RdT.heap {w w' : World} {B n : Nat} {A : Option Addr} {ts : List (Bool × ByteArray × Bool)} (h : RdT w B A n ts) (e : w'.heap = w.heap) : RdT w' B A n ts :=
  Rd.keep h (fun b o _ _ => by unfold World.cell?; rw [e])

set_option maxHeartbeats 1000000 in
theorem eqTFunc (w : World) (A A' : Option Addr) (n cap cap' : Nat) (ts : List (Bool × ByteArray × Bool)) (B B' : Nat) (h : RdT w B A n ts) (h' : RdT w B' A' n ts) (hB : B ≤ w.heap.size) (hB' : B' ≤ w.heap.size) (hl : n ≤ 2) :
    Calls Try.prog 28 #[.slice A n cap, .slice A' n cap', .func (.func 29) #[] #[]] w fun e w' => e = .returned (.bool true) ∧ Ch [] w w' := by
  go_enter Try.func28, Try.ntmps28
  go_wp2
  go_loopw [7] (fun i wr => ∃ k : Nat, k ≤ n ∧ i = .int .i64 k ∧ Ch [] w wr) (fun i _ => n - (intOf i).toNat)
  case atStart => exact ⟨0, Nat.zero_le _, rfl, Ch.refl _ _⟩
  case round =>
    obtain ⟨k, hk, rfl, C⟩ := hrel
    have hr := h.ch C hB
    have hr' := h'.ch C hB'
    by_cases hlt : k < n
    · obtain ⟨b, off, u, s, e, rfl, _, hg, q0, q1, q2⟩ := hr.at_ hlt
      obtain ⟨b', off', u', s', e', rfl, _, hg', p0, p1, p2⟩ := hr'.at_ hlt
      rw [hg] at hg'
      obtain ⟨rfl, rfl, rfl⟩ : u = u' ∧ s = s' ∧ e = e' := by simpa using hg'
      clear hg hg' hr hr'
      have hi : (0 : Int) ≤ k := by omega
      go_wp2
      refine wp_region_stagesM [⟨0, 4, 524288⟩, ⟨0, 1, 1048576⟩, ⟨0, 128, 2097152⟩, ⟨6, 3145728, 4194304⟩, ⟨8, 4194304, 8388608⟩, ⟨0, 2, 16777216⟩, ⟨0, 128, 33554432⟩, ⟨96, 50331648, 67108864⟩, ⟨128, 67108864, 134217728⟩, ⟨273, 143130624, 268435456⟩, ⟨512, 268435456, 536870912⟩] [([0, 1, 2, 3, 4, 5, 6, 7, 8], 9, [])] [10] (by kernel_rfl) (by kernel_rfl) ?_
      refine wpStages_step ?_
      simp only [pick, List.map_cons, List.map_nil, List.getD_cons_zero, List.getD_cons_succ]
      repeat (go_big_quiet_step (fail))
      refine wpQuiet_nil ?_
      intro n0
      simp only [pick, List.map_cons, List.map_nil, List.getD_cons_zero, List.getD_cons_succ]
      go_wp2_with (go_at_call 29; (with_reducible refine (eqTOne _ u s e).mono ?_); rintro r w2 ⟨rfl, C2⟩)
      refine stagePost_mk (by simp [pick]) ?_
      refine wpStages_last ?_
      simp only [pick, List.map_cons, List.map_nil, List.getD_cons_zero, List.getD_cons_succ]
      repeat (go_big_quiet_step (fail))
      refine wpQuiet_nil ?_
      intro n1
      go_wp2
      go_roundw
      case rel => exact ⟨k + 1, by omega, by go_num, ((C.drewN n0).trans C2).drewN n1⟩
      case measure => simp [intOf]; omega
    · obtain rfl : k = n := by omega
      go_wp2
      go_ret
      exact ⟨rfl, C⟩

theorem eqTEqual (w : World) (A A' : Option Addr) (n cap cap' : Nat) (ts : List (Bool × ByteArray × Bool)) (B B' : Nat) (h : RdT w B A n ts) (h' : RdT w B' A' n ts) (hB : B ≤ w.heap.size) (hB' : B' ≤ w.heap.size) (hl : n ≤ 2) :
    Calls Try.prog 15 #[.slice A n cap, .slice A' n cap'] w fun e w' => e = .returned (.bool true) ∧ Ch [] w w' := by
  go_enter Try.func15, Try.ntmps15
  go_wp2_with (go_at_call 28; go_must (with_reducible refine (eqTFunc _ _ _ _ _ _ ts _ _ h h' hB hB' hl).mono ?_; rintro e w' ⟨rfl, C⟩))
  go_ret
  exact ⟨rfl, C⟩
end Go.Proofs.Ytlgbijakljohlaa
