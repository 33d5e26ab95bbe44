/- The walk of HttpstatusRoundTrip. -/
import Derived.Test.YtidfigehahfpeaaDoorLawHttp
import Derived.KernelRfl
namespace Go.Proofs.YtidfigehahfpeaaDoor
open Go.ChangeShapes Go.WideShapes Go.ChangeAt Go.RowKit

def cutOk (c : Int) : Bool := (List.range (fmtS c).size).all fun k => decide (parseL ((fmtS c).data.toList.take k) = (0, 0, 0)) && decide (parseL ((fmtS c).data.toList.take k ++ [0]) = (0, 0, 2))
theorem rt_ok200 (b : List UInt8) : parseL ((fmtS 200).data.toList ++ b) = (200, ((fmtS 200).size : Int), 1) := by kernel_rfl
theorem cut_ok200 : cutOk 200 = true := by kernel_rfl
theorem rt_ok400 (b : List UInt8) : parseL ((fmtS 400).data.toList ++ b) = (400, ((fmtS 400).size : Int), 1) := by kernel_rfl
theorem cut_ok400 : cutOk 400 = true := by kernel_rfl
theorem rt_ok403 (b : List UInt8) : parseL ((fmtS 403).data.toList ++ b) = (403, ((fmtS 403).size : Int), 1) := by kernel_rfl
theorem cut_ok403 : cutOk 403 = true := by kernel_rfl
theorem rt_ok407 (b : List UInt8) : parseL ((fmtS 407).data.toList ++ b) = (407, ((fmtS 407).size : Int), 1) := by kernel_rfl
theorem cut_ok407 : cutOk 407 = true := by kernel_rfl
theorem rt_ok408 (b : List UInt8) : parseL ((fmtS 408).data.toList ++ b) = (408, ((fmtS 408).size : Int), 1) := by kernel_rfl
theorem cut_ok408 : cutOk 408 = true := by kernel_rfl
theorem rt_ok429 (b : List UInt8) : parseL ((fmtS 429).data.toList ++ b) = (429, ((fmtS 429).size : Int), 1) := by kernel_rfl
theorem cut_ok429 : cutOk 429 = true := by kernel_rfl
theorem rt_ok502 (b : List UInt8) : parseL ((fmtS 502).data.toList ++ b) = (502, ((fmtS 502).size : Int), 1) := by kernel_rfl
theorem cut_ok502 : cutOk 502 = true := by kernel_rfl
theorem rt_ok503 (b : List UInt8) : parseL ((fmtS 503).data.toList ++ b) = (503, ((fmtS 503).size : Int), 1) := by kernel_rfl
theorem cut_ok503 : cutOk 503 = true := by kernel_rfl
theorem rt_ok504 (b : List UInt8) : parseL ((fmtS 504).data.toList ++ b) = (504, ((fmtS 504).size : Int), 1) := by kernel_rfl
theorem cut_ok504 : cutOk 504 = true := by kernel_rfl
theorem rt_all {c : Int} (h : c ∈ codesL) : (∀ b, parseL ((fmtS c).data.toList ++ b) = (c, ((fmtS c).size : Int), 1)) ∧ cutOk c = true ∧ 1 ≤ (fmtS c).size := by
  simp only [codesL, List.mem_cons, List.not_mem_nil, or_false] at h
  rcases h with rfl | rfl | rfl | rfl | rfl | rfl | rfl | rfl | rfl
  · exact ⟨rt_ok200, cut_ok200, by decide +kernel⟩
  · exact ⟨rt_ok400, cut_ok400, by decide +kernel⟩
  · exact ⟨rt_ok403, cut_ok403, by decide +kernel⟩
  · exact ⟨rt_ok407, cut_ok407, by decide +kernel⟩
  · exact ⟨rt_ok408, cut_ok408, by decide +kernel⟩
  · exact ⟨rt_ok429, cut_ok429, by decide +kernel⟩
  · exact ⟨rt_ok502, cut_ok502, by decide +kernel⟩
  · exact ⟨rt_ok503, cut_ok503, by decide +kernel⟩
  · exact ⟨rt_ok504, cut_ok504, by decide +kernel⟩
theorem cut_spec {c : Int} (h : cutOk c = true) {k : Nat} (hk : k < (fmtS c).size) : parseL ((fmtS c).data.toList.take k) = (0, 0, 0) ∧ parseL ((fmtS c).data.toList.take k ++ [0]) = (0, 0, 2) := by
  have := List.all_eq_true.1 h k (List.mem_range.2 hk)
  simpa using this

set_option maxRecDepth 100000 in
set_option maxHeartbeats 4000000 in
theorem httpstatusRoundTrip_came {H : Type} {enc : TypeId × Value → H} (W : World) (args : Array Value) (ds : List (DataW H)) (hL : laidMetH Tryd.prog Rows.httpstatusRoundTripRow.laid W) (h : Came enc Tryd.prog Tryd.f4 W args ds) :
    Calls Tryd.prog 4 args W fun e W' => e = .returned (.bool true) ∧ Below W.heap.size W W' := by
  obtain ⟨v0, v1, v2, d0, d1, d2, rfl, a0, a1, a2⟩ := h.args3 rfl
  obtain ⟨x, rfl, hx, hx'⟩ := a0.i64 Tryd.underlying3
  obtain ⟨z, rfl, hz, hz'⟩ := a1.i64 Tryd.underlying3
  obtain ⟨B, rfl, hBs⟩ := a2.string Tryd.underlying9
  have HT := hid (tab_of hL (by rfl))
  clear h a0 a1 a2 hL
  obtain ⟨q, hq⟩ : ∃ q, IntKind.u64.wrap x = q := ⟨_, rfl⟩
  have q01 : 0 ≤ q ∧ q ≤ 18446744073709551615 := by rw [← hq, IntKind.wrap_u64]; omega
  obtain ⟨q0, q1⟩ := q01
  obtain ⟨r, hr⟩ : ∃ r : Nat, q % 9 = r := ⟨(q % 9).toNat, by omega⟩
  have hr9 : r < 9 := by omega
  obtain ⟨y, hy⟩ : ∃ y, at_ codesL r = y := ⟨_, rfl⟩
  have hmem : y ∈ codesL := by rw [← hy]; exact at_mem codesL r hr9
  obtain ⟨f1, f2, f3⟩ := rt_all hmem
  have f4 := fmtS_size y
  have HF1 := hid f1
  have HF2 := hid f2
  obtain ⟨S, hS⟩ : ∃ s, fmtS y = s := ⟨_, rfl⟩
  rw [hS] at f3 f4
  have HS := hid hS
  have HY := hid hy
  clear hS hy hmem f1 f2
  obtain ⟨u, hu⟩ : ∃ u, IntKind.u64.wrap z = u := ⟨_, rfl⟩
  have u01 : 0 ≤ u ∧ u ≤ 18446744073709551615 := by rw [← hu, IntKind.wrap_u64]; omega
  obtain ⟨u0, u1⟩ := u01
  have m0 := Int.emod_nonneg u (show (S.size : Int) ≠ 0 by omega)
  have m1 := Int.emod_lt_of_pos u (show 0 < (S.size : Int) by omega)
  obtain ⟨k, hk⟩ : ∃ k : Nat, u % (S.size : Int) = k := ⟨(u % S.size).toNat, by omega⟩
  have hkS : k < S.size := by omega
  clear m0 m1
  have HP1 : Hid (parseL (S ++ B).data.toList = (y, (S.size : Int), 1)) := by
    show _ = _
    rw [ByteArray.data_append, Array.toList_append, ← HS.out]; exact HF1.out _
  have HP2 : Hid (parseL (S.extract 0 k).data.toList = (0, 0, 0)) := by
    show _ = _
    rw [ByteArray.data_extract, Array.toList_extract, List.extract_eq_take_drop, List.drop_zero, Nat.sub_zero, ← HS.out]
    exact (cut_spec HF2.out (by rw [HS.out]; exact hkS)).1
  have HP3 : Hid (parseL (S.extract 0 k ++ ⟨#[0]⟩).data.toList = (0, 0, 2)) := by
    show _ = _
    rw [ByteArray.data_append, Array.toList_append, ByteArray.data_extract, Array.toList_extract, List.extract_eq_take_drop, List.drop_zero, Nat.sub_zero, ← HS.out]
    exact (cut_spec HF2.out (by rw [HS.out]; exact hkS)).2
  obtain ⟨g1, g2, g3, hg⟩ : ∃ g1 g2 g3, parseL B.data.toList = (g1, g2, g3) := ⟨_, _, _, rfl⟩
  have HG := hid hg
  clear hg
  have hes : (S.extract 0 k).size ≤ 200 := by rw [ByteArray.size_extract]; omega
  go_enter Tryd.func4, Tryd.ntmps4
  go_wp2_with (first
    | (go_at_call 13; (with_reducible refine (codesR _).mono ?_); rintro e w1 ⟨rfl, hC, C1⟩; have hcell : w1.cell? ⟨W.heap.size, r, none⟩ = some (.int .i64 y) := by
        obtain ⟨b, off, he, _, hc⟩ := hC.at_ hr9
        obtain ⟨rfl, rfl⟩ : W.heap.size = b ∧ 0 = off := by simpa using he
        rw [Nat.zero_add, HY.out] at hc
        exact hc)
    | (go_at_call 16; (with_reducible refine (fmtR y _).mono ?_); rw [HS.out]; rintro e w2 ⟨rfl, C2⟩; have T2 := (HT.out.ch C1).ch C2)
    | (go_at_call 19; (with_reducible refine (parseP _ _ _ _ HP1.out w2 T2).mono ?_); rintro e w3 ⟨rfl, C3⟩; have T3 := T2.ch C3)
    | (go_at_call 19; (with_reducible refine (parseP _ _ _ _ HP2.out w3 T3).mono ?_); rintro e w4 ⟨rfl, C4⟩; have T4 := T3.ch C4)
    | (go_at_call 19; (with_reducible refine (parseP _ _ _ _ HP3.out w4 T4).mono ?_); rintro e w5 ⟨rfl, C5⟩; have T5 := T4.ch C5)
    | (go_at_call 19; (with_reducible refine (parseP B _ _ _ HG.out w5 T5).mono ?_); rintro e w6 ⟨rfl, C6⟩; have T6 := T5.ch C6)
    | (go_at_call 20; (with_reducible refine (parseR B (by omega) _ _ _ HG.out w6).mono ?_); rintro e w7 ⟨rfl, C7⟩; have T7 := T6.ch C7)
    | (go_at_call 14; (with_reducible refine (httpAwake _ T7).mono ?_); rintro e w8 ⟨rfl, C8⟩))
  go_ret
  exact ⟨rfl, (C1.trans (C2.trans (C3.trans (C4.trans (C5.trans (C6.trans (C7.trans C8))))))).nil_below⟩
end Go.Proofs.YtidfigehahfpeaaDoor
