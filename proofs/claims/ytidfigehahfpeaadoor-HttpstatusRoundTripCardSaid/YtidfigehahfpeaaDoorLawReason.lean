/- The walks of ReasonCodes and ReasonPrimaryIsOrderFree. -/
import Derived.Test.YtidfigehahfpeaaDoorReply4
import Derived.Test.YtidfigehahfpeaaDoorReason
import Derived.Test.YtidfigehahfpeaaDoorReason2
import Derived.Test.YtidfigehahfpeaaDoorShellD
import Derived.Test.YtidfigehahfpeaaDoorRows
namespace Go.Proofs.YtidfigehahfpeaaDoor
open Go.ChangeShapes Go.WideShapes Go.ChangeAt Go.RowKit

theorem sockOf_rng (v : Int) : 0 ≤ sockOf v ∧ sockOf v ≤ 8 := by unfold sockOf; repeat (first | omega | split)
theorem rsnReply5 (v code : Int) (hc : sockOf v = code) (w : World) : Calls Tryd.prog 36 #[.int .i64 1, .int .i64 v] w fun e w' => e = .returned (.string (strOfNums [5, code, 0, 1, 0, 0, 0, 0, 0, 0])) ∧ Ch [] w w' := by
  have hr := sockOf_rng v
  rw [hc] at hr
  obtain ⟨r0, r1⟩ := hr
  have HC := hid hc
  clear hc
  go_enter Tryd.func36, Tryd.ntmps36
  go_wp2_with (first
    | (go_at_call 32; (with_reducible refine (rsnSocks _ _).mono ?_); rw [HC.out]; rintro e w' ⟨rfl, rfl⟩)
    | (go_at_call 52; (with_reducible refine (rplyZero code (by omega) (by omega) _).mono ?_); rintro e w2 ⟨rfl, C2⟩))
  go_ret
  exact ⟨rfl, C2⟩

theorem rsnPrimaryAs (w : World) (A : Option Addr) (len cap : Nat) (zs : List Int) (B : Nat) (h : RdI .i64 w B A len zs) (hl : len ≤ 9223372036854775807) (r : Int) (hr : primOf zs = r) :
    Calls Tryd.prog 38 #[.slice A len cap] w fun e w' => e = .returned (.int .i64 r) ∧ w = w' := by subst hr; exact rsnPrimary w A len cap zs B h hl

theorem rsnAwake (w : World) : Calls Tryd.prog 31 #[] w fun e w' => e = .returned (.bool true) ∧ Below w.heap.size w w' := by
  have hR : RdI .i64 (w.alloc (.cells #[.int .i64 3, .int .i64 1, .int .i64 5] 3)) (w.heap.size + 1) (some ⟨w.heap.size, 0, none⟩) 3 [3, 1, 5] := blk_ints (Blk.new w 3 [.int .i64 3, .int .i64 1, .int .i64 5]) 0 3 _ rfl (fun i hi => by
    rcases (show i = 0 ∨ i = 1 ∨ i = 2 by simp at hi; omega) with rfl | rfl | rfl <;> rfl)
  have hs : (strOfNums [5, 5, 0, 1, 0, 0, 0, 0, 0, 0]).toList = (⟨#[5, 5, 0, 1, 0, 0, 0, 0, 0, 0]⟩ : ByteArray).toList := rfl
  go_enter Tryd.func31, Tryd.ntmps31
  go_wp2_with (first
    | (go_at_call 38; with_reducible refine (rsnPrimaryAs _ _ _ _ [3, 1, 5] _ hR (by omega) 1 rfl).mono ?_; rintro e w' ⟨rfl, rfl⟩)
    | (go_at_call 38; (with_reducible refine (rsnPrimaryAs _ _ _ _ [] 0 (RdI.nil _ _ _ _) (by omega) 4 rfl).mono ?_); rintro e w' ⟨rfl, rfl⟩)
    | (go_at_call 32; (with_reducible refine (rsnSocks _ _).mono ?_); rw [show sockOf 5 = 2 from rfl]; rintro e w' ⟨rfl, rfl⟩)
    | (go_at_call 34; (with_reducible refine (rsnHttp _ _).mono ?_); rw [show httpOf 7 = 503 from rfl]; rintro e w' ⟨rfl, rfl⟩)
    | (go_at_call 36; (with_reducible refine (rsnReply5 1 5 rfl _).mono ?_); rintro e w2 ⟨rfl, C2⟩))
  go_ret
  exact ⟨rfl, (((Ch.refl [] w).alloc _).trans C2).nil_below⟩

set_option maxRecDepth 100000 in
set_option maxHeartbeats 2000000 in
theorem reasonCodes_came {H : Type} {enc : TypeId × Value → H} (W : World) (args : Array Value) (ds : List (DataW H)) (_ : laidMetH Tryd.prog Rows.reasonCodesRow.laid W) (h : Came enc Tryd.prog Tryd.f10 W args ds) :
    Calls Tryd.prog 10 args W fun e W' => e = .returned (.bool true) ∧ Below W.heap.size W W' := by
  obtain ⟨v0, d0, rfl, a0⟩ := h.args1 rfl
  obtain ⟨n, rfl, hn, hn'⟩ := a0.i64 Tryd.underlying3
  clear h a0
  go_enter Tryd.func10, Tryd.ntmps10
  go_wp2_with (first
    | (go_at_call 31; (with_reducible refine (rsnAwake _).mono ?_); rintro e w1 ⟨rfl, hb1⟩)
    | (go_at_call 32; (with_reducible refine (rsnSocks _ _).mono ?_); rintro e w' ⟨rfl, rfl⟩)
    | (go_at_call 34; (with_reducible refine (rsnHttp _ _).mono ?_); rintro e w' ⟨rfl, rfl⟩)
    | (go_at_call 33; (with_reducible refine (refSocks _ w3).mono ?_); rintro e w4 ⟨rfl, C4⟩)
    | (go_at_call 33; (with_reducible refine (refSocks _ w1).mono ?_); rintro e w2 ⟨rfl, C2⟩)
    | (go_at_call 35; (with_reducible refine (refHttp _ w4).mono ?_); rintro e w5 ⟨rfl, C5⟩)
    | (go_at_call 35; (with_reducible refine (refHttp _ w2).mono ?_); rintro e w3 ⟨rfl, C3⟩))
  go_ret
  exact ⟨rfl, hb1.trans (((C2.trans C3).trans (C4.trans C5)).nil_below.mono hb1.size)⟩
end Go.Proofs.YtidfigehahfpeaaDoor
