/- Statements about layer 31 (relay): the fixed example; operations as they come in. -/
import Derived.Test.YtlgbijakljohlaaRows
import Derived.Test.YtlgbijakljohlaaRelay2
import Derived.Test.YtlgbijakljohlaaRelay3
import Derived.Test.YtlgbijakljohlaaRefRelay3
import Derived.Test.YtlgbijakljohlaaHelpEqT
import Derived.Test.YtlgbijakljohlaaGen
import Derived.Test.YtlgbijakljohlaaShell
import Derived.Test.YtlgbijakljohlaaArgs
namespace Go.Proofs.Ytlgbijakljohlaa
open Go.ChangeShapes Go.WideShapes Go.ChangeAt Go.RowKit

theorem genModAs (v n r : Int) (hr : modI v n = r) (w : World) (h0 : 0 < n) (h1 : n ≤ 9223372036854775807) :
    Calls Try.prog 5 #[.int .i64 v, .int .i64 n] w fun e w' => e = .returned (.int .i64 r) ∧ w = w' := by
  subst hr; exact genMod v n w h0 h1
theorem relOp_four : Try.prog.cellsOf 34 = 4 := by kernel_rfl
theorem relOp_cells {H : Type} {enc : TypeId × Value → H} {W : World} {c : List Value} (h : Cl enc Try.prog W 34 c) :
    ∃ kd up s n, c = [.int .i64 kd, .bool up, .string s, .int .u64 n] ∧ s.size ≤ 140737488351232 ∧ (0 ≤ n ∧ n ≤ 18446744073709551615) := by
  have e0 : Try.prog.cellsOf 9 = 1 := by kernel_rfl
  have e1 : Try.prog.cellsOf 3 = 1 := by kernel_rfl
  have e2 : Try.prog.cellsOf 32 = 1 := by kernel_rfl
  have e3 : Try.prog.cellsOf 4 = 1 := by kernel_rfl
  have hl := (h.struct Try.underlying34).1
  rw [relOp_four] at hl
  have h0 := h.field Try.underlying34 0 3 0 1 rfl e1
  have h1 := h.field Try.underlying34 1 4 1 1 rfl e3
  have h2 := h.field Try.underlying34 2 9 2 1 rfl e0
  have h3 := h.field Try.underlying34 3 32 3 1 rfl e2
  obtain ⟨kd, k0, _⟩ := h0.i64 Try.underlying3
  obtain ⟨up, u0⟩ := h1.bool Try.underlying4
  obtain ⟨s, s0, s1⟩ := h2.string Try.underlying9
  obtain ⟨n, n0, n1⟩ := h3.u64 Try.underlying32
  refine ⟨kd, up, s, n, ?_, s1, n1⟩
  match c, hl with
  | [x, y, z, u], _ => simp at k0 u0 s0 n0; rw [k0, u0, s0, n0]

theorem relayAwake (w : World) : Calls Try.prog 22 #[] w fun e w' => e = .returned (.bool true) ∧ Ch [] w w' := by
  go_enter Try.func22, Try.ntmps22
  go_wp2_with fail
  refine (relayNew 8 8 rfl _ (by omega) (by omega)).mono ?_
  rintro e w1 ⟨B1, B2, rfl, R1, C1⟩
  go_wp2_with fail
  refine (relayNew_bad 0 _ (by omega)).mono ?_
  rintro e w2 ⟨rfl, C2⟩
  have R2 := R1.ch C2 (by simp)
  have hl1 := R1.dn.lt
  have hl2 := R1.up.lt
  have hz1 := C1.size
  have hz2 := C2.size
  have hs := R1.sep
  unfold relSep at hs
  go_wp2_with (first
    | (go_at_call 8; go_must ((with_reducible refine (relayPipe _ _ 8 B1 B2 _ _ R2 _ _ rfl).mono ?_); simp only [if_true, Bool.false_eq_true, if_false]; rintro e w' ⟨rfl, rfl⟩))
    | fail)
  refine (pWrite _ B1 8 _ R2.dn _ (by unfold maxLen; decide) 2 rfl).mono ?_
  rintro e w3 ⟨rfl, P3, C3⟩
  have R3 := R2.dnCh C3 (by simp <;> omega) P3
  have hz3 := C3.size
  go_wp2_with (go_at_call 8; go_must ((with_reducible refine (relayPipe _ _ 8 B1 B2 _ _ R3 _ _ rfl).mono ?_); simp only [Bool.false_eq_true, if_false]; rintro e w' ⟨rfl, rfl⟩))
  refine (pAddCredit _ B1 8 _ R3.dn 9 (by omega) (by omega)).mono ?_
  rintro e w4 ⟨rfl, P4, C4⟩
  have R4 := R3.dnCh C4 (by simp <;> omega) P4
  have hz4 := C4.size
  clear R1 R2 R3 P3 P4
  go_wp2_with fail
  refine (relayTransfer _ _ 8 B1 B2 _ _ R4 true _ rfl _ rfl [(false, ⟨#[111, 107]⟩, false)] (by kernel_rfl)).mono ?_
  rintro e w5 ⟨A, k, cc, rfl, own, hk, R5, C5⟩
  have hz5 := C5.size
  have hk1 : k = 1 := by have := own.len; rw [trsCells_len] at this; simp at this; omega
  subst hk1
  have r5 : RdT w5 w5.heap.size A 1 [(false, ⟨#[111, 107]⟩, false)] := own.rd
  have R6 := R5.ch ((Ch.refl [] w5).alloc (.cells #[.bool false, .string ⟨#[111, 107]⟩, .bool false] 45)) (by simp)
  have r6 := r5.ch ((Ch.refl [] w5).alloc (.cells #[.bool false, .string ⟨#[111, 107]⟩, .bool false] 45)) (by omega)
  have rn : RdT (w5.alloc (.cells #[.bool false, .string ⟨#[111, 107]⟩, .bool false] 45)) (w5.heap.size + 1) (some ⟨w5.heap.size, 0, none⟩) 1 [(false, ⟨#[111, 107]⟩, false)] := Rd.new w5 3 (trsCells [(false, ⟨#[111, 107]⟩, false)]) 1 rfl _
  go_wp2_with (first
    | (go_at_call 15; go_must ((with_reducible refine (eqTEqual _ _ _ 1 _ _ [(false, ⟨#[111, 107]⟩, false)] _ _ r6 rn (by simp) (by simp) (by omega)).mono ?_); rintro e w7 ⟨rfl, C7⟩; have R7 := R6.ch C7 (by simp)))
    | (go_at_call 18; go_must ((with_reducible refine (relayBuffered _ _ 8 B1 B2 _ _ R7 0 rfl).mono ?_); rintro e w' ⟨rfl, n8, rfl⟩; have R8 := R7.heap (w' := w7.drewN n8) rfl))
    | (go_at_call 19; go_must ((with_reducible refine (relayDrained _ _ 8 B1 B2 _ _ R8 false false rfl).mono ?_); rintro e w' ⟨rfl, rfl⟩)))
  go_ret
  have C34 : Ch [] w w5 := ((((C1.trans C2).step C3 (by simp <;> omega)).step C4 (by simp <;> omega)).step C5 (by simp <;> omega))
  exact ⟨rfl, ((C34.alloc _).trans C7).drewN _⟩
end Go.Proofs.Ytlgbijakljohlaa
