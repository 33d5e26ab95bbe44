/- The four statements about layer 1 (tick): for every input the law returns true and turns nothing that was there. -/
import Derived.Test.YtjchkjaopdhhlaaRows
import Derived.Test.YtjchkjaopdhhlaaTick
import Derived.Test.YtjchkjaopdhhlaaShell
namespace Go.Proofs.Ytjchkjaopdhhlaa
open Go.ChangeShapes Go.WideShapes Go.ChangeAt Go.RowKit

theorem tickAwake (w : World) : Calls Try.prog 15 #[] w fun e w' => e = .returned (.bool true) ∧ Below w.heap.size w w' := by
  have e1 : addT 18446744073709551615 1 = 18446744073709551615 := by decide
  have e2 : minI (addT 5 10) (minL [12, 20]) = 12 := by decide
  have e3 : winT 25 10 = 2 := by decide
  have e4 : subT 9 4 = 5 := by decide
  have e5 : minL [] = 18446744073709551615 := by decide
  have hr : ∀ w : World, RdI .u64 (w.alloc (.cells #[.int .u64 12, .int .u64 20] 22)) (w.heap.size + 1) (some ⟨w.heap.size, 0, none⟩) 2 [12, 20] := fun w => RdI.new .u64 w [12, 20] 2 rfl 22
  have HR := hid hr
  clear hr
  go_enter Try.func15, Try.ntmps15
  go_wp2_with (first
    | (go_at_call 16; refine (tickAdd _ _ _ (by omega) (by omega) (by omega) (by omega)).mono ?_; rintro e w' ⟨rfl, rfl⟩)
    | (go_at_call 22; refine (tickDeadline _ _ _ _ _ _ _ _ (HR.out _) (by omega) (by omega) (by omega) (by omega) (by omega)).mono ?_; rintro e w' ⟨rfl, rfl⟩)
    | (go_at_call 24; refine (tickWindow _ _ _ (by omega) (by omega) (by omega) (by omega)).mono ?_; rintro e w' ⟨rfl, rfl⟩)
    | (go_at_call 18; refine (tickSub _ _ _ (by omega) (by omega) (by omega) (by omega)).mono ?_; rintro e w' ⟨rfl, rfl⟩)
    | (go_at_call 20; refine (tickMin _ _ _ _ _ _ (RdI.nil _ _ 0 _) (by omega)).mono ?_; rintro e w' ⟨rfl, rfl⟩))
  go_ret
  exact ⟨rfl, (Below.refl _ _).alloc (Nat.le_refl _) _⟩

theorem tickSaturates_came {H : Type} {enc : TypeId × Value → H} (W : World) (args : Array Value) (ds : List (DataW H)) (h : Came enc Try.prog Try.f3 W args ds) :
    Calls Try.prog 3 args W fun e W' => e = .returned (.bool true) ∧ Below W.heap.size W W' := by
  obtain ⟨v0, v1, d0, d1, rfl, a0, a1⟩ := h.args2 rfl
  obtain ⟨a, rfl, ha, ha'⟩ := a0.u64 Try.underlying22
  obtain ⟨b, rfl, hb, hb'⟩ := a1.u64 Try.underlying22
  have hr : ∀ w : World, RdI .u64 (w.alloc (.cells #[.int .u64 a, .int .u64 b] 22)) (w.heap.size + 1) (some ⟨w.heap.size, 0, none⟩) 2 [a, b] := fun w => RdI.new .u64 w [a, b] 2 rfl 22
  have HR := hid hr
  have hm : minL [a, b] = minI a b := by
    have : minI 18446744073709551615 a = a := by unfold minI; split <;> omega
    simp [minL, this]
  have HM := hid hm
  clear hr hm h a0 a1
  go_enter Try.func3, Try.ntmps3
  go_wp2_with (first
    | (go_at_call 15; refine (tickAwake _).mono ?_; rintro e w' ⟨rfl, hb1⟩)
    | (go_at_call 16; refine (tickAdd _ _ _ (by omega) (by omega) (by omega) (by omega)).mono ?_; rintro e w' ⟨rfl, rfl⟩)
    | (go_at_call 17; refine (refAdd _ _ _ (by omega) (by omega) (by omega) (by omega)).mono ?_; rintro e w' ⟨rfl, rfl⟩)
    | (go_at_call 18; refine (tickSub _ _ _ (by omega) (by omega) (by omega) (by omega)).mono ?_; rintro e w' ⟨rfl, rfl⟩)
    | (go_at_call 19; refine (refSub _ _ _ (by omega) (by omega) (by omega) (by omega)).mono ?_; rintro e w' ⟨rfl, rfl⟩)
    | (go_at_call 20; refine (tickMin _ _ _ _ _ _ (HR.out _) (by omega)).mono ?_; rintro e w' ⟨rfl, rfl⟩))
  all_goals go_ret
  all_goals exact ⟨ret_bool (by rw [HM.out, beq_iff_eq]; unfold minI; split <;> omega), hb1.alloc hb1.size _⟩

end Go.Proofs.Ytjchkjaopdhhlaa
