/- The walk of PipeEOFOnceAfterData (printed by mk_lawpipe5.py). -/
import Derived.Test.YthdjnidaahhjbaaLawPipe2
namespace Go.Proofs.Ythdjnidaahhjbaa
open Go.ChangeShapes Go.WideShapes Go.ChangeAt Go.RowKit

set_option maxRecDepth 100000 in
set_option maxHeartbeats 8000000 in
theorem pipeEOFOnceAfterData_came {H : Type} {enc : TypeId × Value → H} (W : World) (args : Array Value) (ds : List (DataW H)) (h : Came enc Try.prog Try.f3 W args ds) :
    Calls Try.prog 3 args W fun e W' => e = .returned (.bool true) ∧ Below W.heap.size W W' := by
  obtain ⟨v0, v1, v2, d0, d1, d2, rfl, a0, a1, a2⟩ := h.args3 rfl
  obtain ⟨n, rfl, hn, hn'⟩ := a0.i64 Try.underlying3
  obtain ⟨s, rfl, hs⟩ := a1.string Try.underlying9
  obtain ⟨A2, len2, cap2, gs, rfl, hlc2, hcm2, _, hrd2, hgs⟩ := a2.ints Try.underlying22 Try.underlying33 (by kernel_rfl)
  have HGS := hid hgs
  have HS := hid hs
  unfold maxLen at hcm2
  clear h a0 a1 a2 hgs
  obtain ⟨p0, p1⟩ := modI_rng n 60 (by omega)
  obtain ⟨c, hc⟩ := Int.eq_ofNat_of_zero_le (show 0 ≤ modI n 60 by omega)
  have HC := hid hc
  have hc0 : c < 60 := by omega
  clear p0 p1 hc
  obtain ⟨M, hM⟩ : ∃ M, min s.size (1 + c) = M := ⟨_, rfl⟩
  have HM := hid hM
  have hM1 : M ≤ s.size ∧ M ≤ 60 := by omega
  obtain ⟨B, hB⟩ : ∃ B, (numsOf s).take M = B := ⟨_, rfl⟩
  have HB := hid hB
  have HBL : Hid (B.length = M) := by show _ = _; rw [← hB, List.length_take, numsOf_length]; omega
  have HBT : Hid (∀ t, t ≤ M → strOfNums (B.take t) = s.extract 0 t) := fun t ht => by
    conv => rhs; rw [← strOf_nums s]
    rw [strOf_extract, ← hB, List.take_take, Nat.min_eq_left ht]; simp
  clear hM hB hs
  go_enter Try.func3, Try.ntmps3
  go_wp2_with fail
  refine (genModAs _ _ c HC.out _ (by omega) (by omega)).mono ?_
  rintro e w' ⟨rfl, rfl⟩
  go_wp2_with fail
  refine (pipeNew_as _ (1 + c) (by omega) _ (by omega) (by omega)).mono ?_
  rintro e w1 ⟨p, rfl, hp, R1, C1⟩
  have hz1 := C1.size
  have hb1 := C1.nil_below
  have hl1 := R1.lt
  go_wp2_with (first
    | (go_at_call 11; with_reducible refine (pipeWrite_shut _ p _ W.heap.size (1 + c) B 0 true false R4 _ rfl).mono ?_; rintro e w' ⟨rfl, rfl⟩)
    | (go_at_call 11; go_must ((with_reducible refine (pipeWriteAs _ p _ W.heap.size (1 + c) [] 0 false false R1 s (by have := HS.out; unfold maxLen; omega) rfl M (by simpa using HM.out) B (by simpa using HB.out)).mono ?_); rintro e w2 ⟨rfl, R2, C2⟩; have hz2 := C2.size))
    | (go_at_call 12; with_reducible refine (pipeCloseAs _ p _ W.heap.size (1 + c) B 0 true false R3 false rfl).mono ?_; rintro e w4 ⟨rfl, R4, C4⟩; have hz4 := C4.size)
    | (go_at_call 12; go_must ((with_reducible refine (pipeCloseAs _ p _ W.heap.size (1 + c) B 0 false false R2 true rfl).mono ?_); rintro e w3 ⟨rfl, R3, C3⟩; have hz3 := C3.size)))
  have hb4 := Below.ch (Below.ch (Below.ch hb1 C2 (by simp) (by omega)) C3 (by simp; omega) (by omega)) C4 (by simp; omega) (by omega)
  go_loopw [11, 12, 13] (fun out ends i wr => ∃ (k t : Nat) (z cr : Int) (dr : Bool) (OUT : ByteArray), k ≤ 60 ∧ i = .int .i64 k ∧ out = .string OUT ∧ ends = .int .i64 z ∧ t ≤ M ∧ (dr = true ∧ z = 1 ∧ t = M ∨ dr = false ∧ z = 0) ∧ Hid (OUT = strOfNums (B.take t)) ∧ OUT.size ≤ t ∧ t ≤ OUT.size ∧
      pipeAt wr p (W.heap.size + 1) W.heap.size (1 + c) (B.drop t) cr true dr ∧ Below W.heap.size W wr ∧ w1.heap.size ≤ wr.heap.size) (fun _ _ i _ => 60 - (intOf i).toNat)
  case atStart => exact ⟨0, 0, 0, 0, false, _, by omega, rfl, rfl, rfl, by omega, .inr ⟨rfl, rfl⟩, rfl, Nat.le_refl 0, Nat.le_refl 0, R4, hb4, by omega⟩
  case round =>
    clear R1 R2 R3 R4 C1 C2 C3 C4 hb1 hb4
    obtain ⟨k, t, z, cr, dr, OUT, hk, rfl, rfl, rfl, ht, hdr, hOUT, ho1, ho2, hR, hb, hzr⟩ := hrel
    have hRl := hR.lt
    obtain ⟨q, hq⟩ : ∃ q, (B.drop t).length = q := ⟨_, rfl⟩
    have hq1 : q = M - t := by rw [← hq, List.length_drop, HBL.out]
    have HQ := hid hq
    clear hq
    by_cases hlt : k ≤ len2 ∧ k < 60
    · obtain ⟨hlt1, hlt2⟩ := hlt
      obtain ⟨m, hm⟩ : ∃ m, min cr.toNat q = m := ⟨_, rfl⟩
      have hm1 : m ≤ q := by omega
      have HMN : Hid (min cr.toNat (B.drop t).length = m) := by show _ = _; rw [HQ.out]; exact hm
      obtain ⟨S, hS⟩ : ∃ S, strOfNums ((B.drop t).take m) = S := ⟨_, rfl⟩
      have HSS := hid hS
      have hS1 : S.size ≤ m ∧ m ≤ S.size := by rw [← hS, strOf_size, List.length_take, HQ.out]; omega
      have HO : Hid (OUT ++ S = strOfNums (B.take (t + m))) := by show _ = _; rw [hOUT.out, ← hS, strOf_append, List.take_add]
      have HY : Hid ((B.drop t).drop m = B.drop (t + m)) := by show _ = _; rw [List.drop_drop]
      clear hS hm
      rcases hdr with ⟨rfl, rfl, h3⟩ | ⟨rfl, rfl⟩
      · skip
        have HE : Hid ((true && decide ((B.drop t).length ≤ m) && !true) = false) := by show _ = _; rw [HQ.out]; simp
        by_cases hg : k < len2
        · skip
          obtain ⟨b2, off2, rfl, hb2l, hc2⟩ := hrd2.2 (by omega)
          have hgk := hc2 k hg
          have hgw := HGS.out _ (at_mem gs k (by rw [hrd2.1]; exact hg))
          have hgb := bounds_u64 hgw
          generalize at_ gs k = gk at hgk hgb
          clear hgw hc2
          have m0 : 0 ≤ gk % 20 ∧ gk % 20 < 20 := by omega
          go_wp2_with (first
            | (go_at_call 13; go_must ((with_reducible refine (pipeReadAs _ p _ W.heap.size (1 + c) (B.drop t) cr true true hR m HMN.out S false (B.drop (t + m)) (cr - m) true HSS.out HE.out HY.out rfl rfl).mono ?_); rintro e w2 ⟨rfl, R2, C2⟩; have hz2 := C2.size; have bb2 := Below.ch hb C2 (by simp; omega) hb.size; have g2 : w2.cell? ⟨b2, off2 + k, none⟩ = some (.int .u64 gk) := ((Below.cells bb2).1 _ _ hb2l).trans hgk))
            | (go_at_call 14; go_must ((with_reducible refine (pipeDrained _ p _ W.heap.size (1 + c) (B.drop (t + m)) (cr - m) true true R2).mono ?_); rintro e w' ⟨rfl, rfl⟩))
            | (go_at_call 15; go_must ((with_reducible refine (pipeAddAs _ p _ W.heap.size (1 + c) (B.drop (t + m)) (cr - m) true true R2 (gk % 20) (by omega) (by omega) _ rfl).mono ?_); rintro e w3 ⟨rfl, R3, C3⟩; have hz3 := C3.size; have bb3 := Below.ch bb2 C3 (by simp; omega) (by omega))))
          go_roundw
          case rel =>
            refine ⟨k + 1, t + m, 1, (addT (cr - m) (gk % 20)), true, _, by omega, by go_num, rfl, rfl, by omega, ?_, HO, ?_, ?_, R3, bb3, by omega⟩
            · first | exact .inl ⟨rfl, rfl, by omega⟩ | exact .inr ⟨rfl, rfl⟩
            · rw [ByteArray.size_append]; omega
            · rw [ByteArray.size_append]; omega
          case measure => simp [intOf]; omega
        · skip
          go_wp2_with (first
            | (go_at_call 13; go_must ((with_reducible refine (pipeReadAs _ p _ W.heap.size (1 + c) (B.drop t) cr true true hR m HMN.out S false (B.drop (t + m)) (cr - m) true HSS.out HE.out HY.out rfl rfl).mono ?_); rintro e w2 ⟨rfl, R2, C2⟩; have hz2 := C2.size; have bb2 := Below.ch hb C2 (by simp; omega) hb.size))
            | (go_at_call 14; go_must ((with_reducible refine (pipeDrained _ p _ W.heap.size (1 + c) (B.drop (t + m)) (cr - m) true true R2).mono ?_); rintro e w' ⟨rfl, rfl⟩)))
          go_roundw
          case rel =>
            refine ⟨k + 1, t + m, 1, (cr - m), true, _, by omega, by go_num, rfl, rfl, by omega, ?_, HO, ?_, ?_, R2, bb2, by omega⟩
            · first | exact .inl ⟨rfl, rfl, by omega⟩ | exact .inr ⟨rfl, rfl⟩
            · rw [ByteArray.size_append]; omega
            · rw [ByteArray.size_append]; omega
          case measure => simp [intOf]; omega
      · by_cases hf : t + m = M
        · skip
          have HE : Hid ((true && decide ((B.drop t).length ≤ m) && !false) = true) := by show _ = _; rw [HQ.out]; simp; omega
          by_cases hg : k < len2
          · skip
            obtain ⟨b2, off2, rfl, hb2l, hc2⟩ := hrd2.2 (by omega)
            have hgk := hc2 k hg
            have hgw := HGS.out _ (at_mem gs k (by rw [hrd2.1]; exact hg))
            have hgb := bounds_u64 hgw
            generalize at_ gs k = gk at hgk hgb
            clear hgw hc2
            have m0 : 0 ≤ gk % 20 ∧ gk % 20 < 20 := by omega
            go_wp2_with (first
              | (go_at_call 13; go_must ((with_reducible refine (pipeReadAs _ p _ W.heap.size (1 + c) (B.drop t) cr true false hR m HMN.out S true (B.drop (t + m)) (cr - m) true HSS.out HE.out HY.out rfl rfl).mono ?_); rintro e w2 ⟨rfl, R2, C2⟩; have hz2 := C2.size; have bb2 := Below.ch hb C2 (by simp; omega) hb.size; have g2 : w2.cell? ⟨b2, off2 + k, none⟩ = some (.int .u64 gk) := ((Below.cells bb2).1 _ _ hb2l).trans hgk))
              | (go_at_call 14; go_must ((with_reducible refine (pipeDrained _ p _ W.heap.size (1 + c) (B.drop (t + m)) (cr - m) true true R2).mono ?_); rintro e w' ⟨rfl, rfl⟩))
              | (go_at_call 15; go_must ((with_reducible refine (pipeAddAs _ p _ W.heap.size (1 + c) (B.drop (t + m)) (cr - m) true true R2 (gk % 20) (by omega) (by omega) _ rfl).mono ?_); rintro e w3 ⟨rfl, R3, C3⟩; have hz3 := C3.size; have bb3 := Below.ch bb2 C3 (by simp; omega) (by omega))))
            go_roundw
            case rel =>
              refine ⟨k + 1, t + m, 1, (addT (cr - m) (gk % 20)), true, _, by omega, by go_num, rfl, rfl, by omega, ?_, HO, ?_, ?_, R3, bb3, by omega⟩
              · first | exact .inl ⟨rfl, rfl, by omega⟩ | exact .inr ⟨rfl, rfl⟩
              · rw [ByteArray.size_append]; omega
              · rw [ByteArray.size_append]; omega
            case measure => simp [intOf]; omega
          · skip
            go_wp2_with (first
              | (go_at_call 13; go_must ((with_reducible refine (pipeReadAs _ p _ W.heap.size (1 + c) (B.drop t) cr true false hR m HMN.out S true (B.drop (t + m)) (cr - m) true HSS.out HE.out HY.out rfl rfl).mono ?_); rintro e w2 ⟨rfl, R2, C2⟩; have hz2 := C2.size; have bb2 := Below.ch hb C2 (by simp; omega) hb.size))
              | (go_at_call 14; go_must ((with_reducible refine (pipeDrained _ p _ W.heap.size (1 + c) (B.drop (t + m)) (cr - m) true true R2).mono ?_); rintro e w' ⟨rfl, rfl⟩)))
            go_roundw
            case rel =>
              refine ⟨k + 1, t + m, 1, (cr - m), true, _, by omega, by go_num, rfl, rfl, by omega, ?_, HO, ?_, ?_, R2, bb2, by omega⟩
              · first | exact .inl ⟨rfl, rfl, by omega⟩ | exact .inr ⟨rfl, rfl⟩
              · rw [ByteArray.size_append]; omega
              · rw [ByteArray.size_append]; omega
            case measure => simp [intOf]; omega
        · skip
          have HE : Hid ((true && decide ((B.drop t).length ≤ m) && !false) = false) := by show _ = _; rw [HQ.out]; simp; omega
          by_cases hg : k < len2
          · skip
            obtain ⟨b2, off2, rfl, hb2l, hc2⟩ := hrd2.2 (by omega)
            have hgk := hc2 k hg
            have hgw := HGS.out _ (at_mem gs k (by rw [hrd2.1]; exact hg))
            have hgb := bounds_u64 hgw
            generalize at_ gs k = gk at hgk hgb
            clear hgw hc2
            have m0 : 0 ≤ gk % 20 ∧ gk % 20 < 20 := by omega
            go_wp2_with (first
              | (go_at_call 13; go_must ((with_reducible refine (pipeReadAs _ p _ W.heap.size (1 + c) (B.drop t) cr true false hR m HMN.out S false (B.drop (t + m)) (cr - m) false HSS.out HE.out HY.out rfl rfl).mono ?_); rintro e w2 ⟨rfl, R2, C2⟩; have hz2 := C2.size; have bb2 := Below.ch hb C2 (by simp; omega) hb.size; have g2 : w2.cell? ⟨b2, off2 + k, none⟩ = some (.int .u64 gk) := ((Below.cells bb2).1 _ _ hb2l).trans hgk))
              | (go_at_call 14; go_must ((with_reducible refine (pipeDrained _ p _ W.heap.size (1 + c) (B.drop (t + m)) (cr - m) true false R2).mono ?_); rintro e w' ⟨rfl, rfl⟩))
              | (go_at_call 15; go_must ((with_reducible refine (pipeAddAs _ p _ W.heap.size (1 + c) (B.drop (t + m)) (cr - m) true false R2 (gk % 20) (by omega) (by omega) _ rfl).mono ?_); rintro e w3 ⟨rfl, R3, C3⟩; have hz3 := C3.size; have bb3 := Below.ch bb2 C3 (by simp; omega) (by omega))))
            go_roundw
            case rel =>
              refine ⟨k + 1, t + m, 0, (addT (cr - m) (gk % 20)), false, _, by omega, by go_num, rfl, rfl, by omega, ?_, HO, ?_, ?_, R3, bb3, by omega⟩
              · first | exact .inl ⟨rfl, rfl, by omega⟩ | exact .inr ⟨rfl, rfl⟩
              · rw [ByteArray.size_append]; omega
              · rw [ByteArray.size_append]; omega
            case measure => simp [intOf]; omega
          · skip
            go_wp2_with (first
              | (go_at_call 13; go_must ((with_reducible refine (pipeReadAs _ p _ W.heap.size (1 + c) (B.drop t) cr true false hR m HMN.out S false (B.drop (t + m)) (cr - m) false HSS.out HE.out HY.out rfl rfl).mono ?_); rintro e w2 ⟨rfl, R2, C2⟩; have hz2 := C2.size; have bb2 := Below.ch hb C2 (by simp; omega) hb.size))
              | (go_at_call 14; go_must ((with_reducible refine (pipeDrained _ p _ W.heap.size (1 + c) (B.drop (t + m)) (cr - m) true false R2).mono ?_); rintro e w' ⟨rfl, rfl⟩)))
            go_roundw
            case rel =>
              refine ⟨k + 1, t + m, 0, (cr - m), false, _, by omega, by go_num, rfl, rfl, by omega, ?_, HO, ?_, ?_, R2, bb2, by omega⟩
              · first | exact .inl ⟨rfl, rfl, by omega⟩ | exact .inr ⟨rfl, rfl⟩
              · rw [ByteArray.size_append]; omega
              · rw [ByteArray.size_append]; omega
            case measure => simp [intOf]; omega
    · have hor : len2 < k ∨ k ≤ len2 ∧ k = 60 := by omega
      have hsl : OUT.toList = (s.extract 0 OUT.size).toList := by
        have h1 : OUT.size = t := by omega
        rw [h1, ← HBT.out t ht, hOUT.out]
      have hos : OUT.size ≤ s.size := by omega
      have HSB := HS.out
      rcases hor with h1 | ⟨h1, rfl⟩
      all_goals
        go_wp2_with (first
          | (go_at_call 16; go_must ((with_reducible refine (pipeAwake _).mono ?_); rintro e w0 ⟨rfl, hb0⟩; have R0 := hR.below hb0 hRl.1 hRl.2.1 hRl.2.2.1; have d0 : w0.cell? ⟨p, 0, none⟩ = some (.pointer (some ⟨W.heap.size + 1, 0, none⟩)) := R0.blk.cell 0))
          | (go_at_call 17; go_must ((with_reducible refine (ringBLenAs _ _ W.heap.size (1 + c) (B.drop t) R0.ring ((M : Int) - OUT.size) (by rw [HQ.out]; omega)).mono ?_); rintro e w' ⟨rfl, rfl⟩)))
        go_ret
        exact ⟨rfl, hb.trans (hb0.mono hb.size)⟩
end Go.Proofs.Ythdjnidaahhjbaa
