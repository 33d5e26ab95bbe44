/- The walk of HttpstatusFormats. -/
import Derived.Test.YtidfigehahfpeaaDoorParse
import Derived.Test.YtidfigehahfpeaaDoorLawReason3
namespace Go.Proofs.YtidfigehahfpeaaDoor
open Go.ChangeShapes Go.WideShapes Go.ChangeAt Go.RowKit

set_option maxRecDepth 100000 in
theorem httpAwake (w : World) (ht : Tab w) : Calls Tryd.prog 14 #[] w fun e w' => e = .returned (.bool true) ∧ Ch [] w w' := by
  have g1 : (fmtS 200).toList = (⟨#[72, 84, 84, 80, 47, 49, 46, 49, 32, 50, 48, 48, 32, 67, 111, 110, 110, 101, 99, 116, 105, 111, 110, 32, 101, 115, 116, 97, 98, 108, 105, 115, 104, 101, 100, 13, 10, 13, 10]⟩ : ByteArray).toList := by rw [ByteArray.toList_eq, ByteArray.toList_eq]; decide +kernel
  have g2 : (phr 429).toList = (⟨#[84, 111, 111, 32, 77, 97, 110, 121, 32, 82, 101, 113, 117, 101, 115, 116, 115]⟩ : ByteArray).toList := by rw [ByteArray.toList_eq, ByteArray.toList_eq]; decide +kernel
  go_enter Tryd.func14, Tryd.ntmps14
  go_wp2_with (first
    | (go_at_call 19; (with_reducible refine (parseP _ 200 39 1 (by decide +kernel) _ ht).mono ?_); rintro e w1 ⟨rfl, C1⟩; have T1 := ht.ch C1)
    | (go_at_call 15; (with_reducible refine (fmtP 200 _ T1).mono ?_); rintro e w2 ⟨rfl, C2⟩)
    | (go_at_call 17; (with_reducible refine (phrP 429 _).mono ?_); rintro e w' ⟨rfl, rfl⟩))
  go_ret
  exact ⟨rfl, C1.trans C2⟩

set_option maxRecDepth 100000 in
set_option maxHeartbeats 4000000 in
theorem httpstatusFormats_came {H : Type} {enc : TypeId × Value → H} (W : World) (args : Array Value) (ds : List (DataW H)) (hL : laidMetH Tryd.prog Rows.httpstatusFormatsRow.laid W) (h : Came enc Tryd.prog Tryd.f3 W args ds) :
    Calls Tryd.prog 3 args W fun e W' => e = .returned (.bool true) ∧ Below W.heap.size W W' := by
  obtain ⟨v0, d0, rfl, a0⟩ := h.args1 rfl
  obtain ⟨x, rfl, hx, hx'⟩ := a0.i64 Tryd.underlying3
  have HT := hid (tab_of hL (by rfl))
  clear h a0 hL
  obtain ⟨q, hq⟩ : ∃ q, IntKind.u64.wrap x = q := ⟨_, rfl⟩
  have q01 : 0 ≤ q ∧ q ≤ 18446744073709551615 := by rw [← hq, IntKind.wrap_u64]; omega
  obtain ⟨q0, q1⟩ := q01
  obtain ⟨r, hr⟩ : ∃ r : Nat, q % 9 = r := ⟨(q % 9).toNat, by omega⟩
  have hr9 : r < 9 := by omega
  obtain ⟨S0, hS0⟩ : ∃ s, fmtS x = s := ⟨_, rfl⟩
  obtain ⟨P0, hP0⟩ : ∃ s, phr x = s := ⟨_, rfl⟩
  obtain ⟨y, hy⟩ : ∃ y, at_ codesL r = y := ⟨_, rfl⟩
  obtain ⟨S1, hS1⟩ : ∃ s, fmtS y = s := ⟨_, rfl⟩
  obtain ⟨P1, hP1⟩ : ∃ s, phr y = s := ⟨_, rfl⟩
  have H0 := hid hS0
  have H1 := hid hS1
  have K0 := hid hP0
  have K1 := hid hP1
  have HY := hid hy
  clear hS0 hS1 hP0 hP1 hy
  go_enter Tryd.func3, Tryd.ntmps3
  go_wp2_with (first
    | (go_at_call 13; (with_reducible refine (codesR _).mono ?_); rintro e w1 ⟨rfl, hC, C1⟩; have hcell : w1.cell? ⟨W.heap.size, r, none⟩ = some (.int .i64 y) := by
        obtain ⟨b, off, he, _, hc⟩ := hC.at_ hr9
        obtain ⟨rfl, rfl⟩ : W.heap.size = b ∧ 0 = off := by simpa using he
        rw [Nat.zero_add, HY.out] at hc
        exact hc)
    | (go_at_call 14; (with_reducible refine (httpAwake _ (HT.out.ch C1)).mono ?_); rintro e w2 ⟨rfl, C2⟩; have T2 := (HT.out.ch C1).ch C2)
    | (go_at_call 15; (with_reducible refine (fmtP y w4 T4).mono ?_); rw [H1.out]; rintro e w5 ⟨rfl, C5⟩)
    | (go_at_call 15; (with_reducible refine (fmtP x w2 T2).mono ?_); rw [H0.out]; rintro e w3 ⟨rfl, C3⟩; have T3 := T2.ch C3)
    | (go_at_call 16; (with_reducible refine (fmtR y w5).mono ?_); rw [H1.out]; rintro e w6 ⟨rfl, C6⟩)
    | (go_at_call 16; (with_reducible refine (fmtR x w3).mono ?_); rw [H0.out]; rintro e w4 ⟨rfl, C4⟩; have T4 := T3.ch C4)
    | (go_at_call 17; (with_reducible refine (phrP x _).mono ?_); rw [K0.out]; rintro e w' ⟨rfl, rfl⟩)
    | (go_at_call 17; (with_reducible refine (phrP y _).mono ?_); rw [K1.out]; rintro e w' ⟨rfl, rfl⟩)
    | (go_at_call 18; (with_reducible refine (phrR x _).mono ?_); rw [K0.out]; rintro e w' ⟨rfl, rfl⟩)
    | (go_at_call 18; (with_reducible refine (phrR y _).mono ?_); rw [K1.out]; rintro e w' ⟨rfl, rfl⟩))
  go_ret
  exact ⟨rfl, (C1.trans (C2.trans (C3.trans (C4.trans (C5.trans C6))))).nil_below⟩
end Go.Proofs.YtidfigehahfpeaaDoor
