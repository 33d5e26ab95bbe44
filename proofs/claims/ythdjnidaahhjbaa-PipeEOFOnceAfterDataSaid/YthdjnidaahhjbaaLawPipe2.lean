/- The walk of PipePreservesBytes. -/
import Derived.Test.YthdjnidaahhjbaaLawPipe
namespace Go.Proofs.Ythdjnidaahhjbaa
open Go.ChangeShapes Go.WideShapes Go.ChangeAt Go.RowKit

theorem genModAs (v n r : Int) (hr : modI v n = r) (w : World) (h0 : 0 < n) (h1 : n ≤ 9223372036854775807) :
    Calls Try.prog 9 #[.int .i64 v, .int .i64 n] w fun e w' => e = .returned (.int .i64 r) ∧ w = w' := by
  subst hr; exact genMod v n w h0 h1

theorem str_cells : Try.prog.cellsOf 9 = 1 := by kernel_rfl

set_option maxRecDepth 100000 in
set_option maxHeartbeats 4000000 in
theorem pipePreservesBytes_came {H : Type} {enc : TypeId × Value → H} (W : World) (args : Array Value) (ds : List (DataW H)) (h : Came enc Try.prog Try.f5 W args ds) :
    Calls Try.prog 5 args W fun e W' => e = .returned (.bool true) ∧ Below W.heap.size W W' := by
  obtain ⟨v0, v1, v2, d0, d1, d2, rfl, a0, a1, a2⟩ := h.args3 rfl
  obtain ⟨n, rfl, hn, hn'⟩ := a0.i64 Try.underlying3
  obtain ⟨A, len, cap, rfl, hlc, hcm, _, hel⟩ := a1.slice Try.underlying41 (by rw [str_cells]; omega)
  obtain ⟨A2, len2, cap2, gs, rfl, hlc2, hcm2, _, hrd2, hgs⟩ := a2.ints Try.underlying22 Try.underlying33 (by kernel_rfl)
  have HEL := hid hel
  have HGS := hid hgs
  unfold maxLen at hcm hcm2
  clear h a0 a1 a2 hel hgs
  obtain ⟨p0, p1⟩ := modI_rng n 60 (by omega)
  obtain ⟨c, hc⟩ := Int.eq_ofNat_of_zero_le (show 0 ≤ modI n 60 by omega)
  have HC := hid hc
  have hc0 : c < 60 := by omega
  clear p0 p1 hc
  go_enter Try.func5, Try.ntmps5
  go_wp2_with fail
  refine (genModAs _ _ c HC.out _ (by omega) (by omega)).mono ?_
  rintro e w' ⟨rfl, rfl⟩
  go_wp2_with fail
  refine (pipeNew_as _ (1 + c) (by omega) _ (by omega) (by omega)).mono ?_
  rintro e w1 ⟨p, rfl, hp, R1, C1⟩
  have hz1 := C1.size
  have hb1 := C1.nil_below
  have hl1 := R1.lt
  go_wp2_with fail
  go_loopw [10, 11, 12, 13] (fun inn out giv i wr => ∃ (k : Nat) (os xs : List Int) (G : Int) (IN OUT : ByteArray), k ≤ 60 ∧ i = .int .i64 k ∧ inn = .string IN ∧ out = .string OUT ∧ giv = .int .u64 G ∧ Hid (IN = strOfNums (os ++ xs)) ∧ Hid (OUT = strOfNums os) ∧ IN.size ≤ os.length + xs.length ∧ OUT.size ≤ os.length ∧ os.length ≤ OUT.size ∧ os.length ≤ G ∧ G ≤ k * 50 ∧
      pipeAt wr p (W.heap.size + 1) W.heap.size (1 + c) xs (G - os.length) false false ∧ Below W.heap.size W wr ∧ w1.heap.size ≤ wr.heap.size) (fun _ _ _ i _ => 60 - (intOf i).toNat)
  case atStart => exact ⟨0, [], [], 0, _, _, by omega, rfl, rfl, rfl, rfl, rfl, rfl, Nat.le_refl 0, Nat.le_refl 0, Nat.le_refl 0, by simp, by simp, R1, hb1, Nat.le_refl _⟩
  case round =>
    clear R1 C1 hb1
    obtain ⟨k, os, xs, G, IN, OUT, hk, rfl, rfl, rfl, rfl, hIN, hOUT, hi1, ho1, ho2, hG0, hG1, hR, hb, hzr⟩ := hrel
    have hRl := hR.lt
    by_cases hlt : k < len ∧ k < 60
    · obtain ⟨hlt1, hlt2⟩ := hlt
      obtain ⟨b, off, rfl, hbl, hcells⟩ := HEL.out (by omega)
      obtain ⟨cs, hcl, hcell, hcc⟩ := hcells k hlt1
      obtain ⟨s, rfl, hs⟩ := hcc.string Try.underlying9
      rw [str_cells] at hcell
      have f0 : W.cell? ⟨b, off + k, none⟩ = some (.string s) := by simpa using hcell 0 (by omega)
      have f1 : wr.cell? ⟨b, off + k, none⟩ = some (.string s) := ((Below.cells hb).1 _ _ hbl).trans f0
      clear hcc hcells hcell hcl
      obtain ⟨M, hM⟩ : ∃ M, min s.size (1 + c - xs.length) = M := ⟨_, rfl⟩
      have hM1 : M ≤ s.size := by omega
      have hM2 : xs.length + M ≤ 1 + c := by omega
      have HM := hid hM
      have HS := hid hs
      obtain ⟨xs1, hx1⟩ : ∃ l, xs ++ (numsOf s).take M = l := ⟨_, rfl⟩
      have HX1 := hid hx1
      have hx1l : xs1.length ≤ xs.length + M ∧ xs.length + M ≤ xs1.length := by rw [← hx1, List.length_append, List.length_take, numsOf_length]; omega
      have HEX : Hid (s.extract 0 M = strOfNums ((numsOf s).take M)) := by
        show _ = _
        conv => lhs; rw [← strOf_nums s]
        rw [strOf_extract]; simp
      have HIN2 : Hid (IN ++ s.extract 0 M = strOfNums (os ++ xs1)) := by show _ = _; rw [hIN.out, HEX.out, strOf_append, List.append_assoc, HX1.out]
      clear hM hx1 hs
      by_cases hg : k < len2
      · obtain ⟨b2, off2, rfl, hb2l, hc2⟩ := hrd2.2 (by omega)
        have hgk := hc2 k hg
        have hgw := HGS.out _ (at_mem gs k (by rw [hrd2.1]; exact hg))
        have hgb := bounds_u64 hgw
        generalize at_ gs k = gk at hgk hgb
        clear hgw hc2
        have m0 : 0 ≤ gk % 50 ∧ gk % 50 < 50 := by omega
        have HADD : Hid (addT (G - os.length) (gk % 50) = G + gk % 50 - os.length) := by show _ = _; unfold addT; split <;> omega
        obtain ⟨n1, hn1⟩ : ∃ n1, min (G + gk % 50 - os.length).toNat xs1.length = n1 := ⟨_, rfl⟩
        have hn1l : n1 ≤ xs1.length ∧ (n1 : Int) ≤ G + gk % 50 - os.length ∧ (n1 < xs1.length → (n1 : Int) = G + gk % 50 - os.length) := by omega
        have HN1 := hid hn1
        have HLN : Hid (((xs1.drop n1).length : Int) = (xs1.length : Int) - n1) := by show _ = _; rw [List.length_drop]; omega
        have hT1 : (strOfNums (xs1.take n1)).size ≤ n1 ∧ n1 ≤ (strOfNums (xs1.take n1)).size := by rw [strOf_size, List.length_take]; omega
        have hT2 : (strOfNums (xs1.drop n1)).size + n1 ≤ xs1.length := by rw [strOf_size, List.length_drop]; omega
        have hcmp : (OUT ++ strOfNums (xs1.take n1) ++ strOfNums (xs1.drop n1)).toList = (IN ++ s.extract 0 M).toList := by
          rw [HIN2.out, hOUT.out, strOf_append, strOf_append, List.append_assoc, List.take_append_drop]
        clear hn1
        go_wp2_with (first
          | (go_at_call 11; go_must ((with_reducible refine (pipeWriteAs _ p _ W.heap.size (1 + c) xs _ false false hR s (by have := HS.out; unfold maxLen; omega) rfl M HM.out xs1 HX1.out).mono ?_); rintro e w2 ⟨rfl, R2, C2⟩; have f2 : w2.cell? ⟨b, off + k, none⟩ = some (.string s) := (C2.cell (p := ⟨b, off + k, none⟩) (by have := hb.size; simp; omega) (by simp; omega)).trans f1; have d0 : w2.cell? ⟨p, 0, none⟩ = some (.pointer (some ⟨W.heap.size + 1, 0, none⟩)) := R2.blk.cell 0; have hz2 := C2.size; have bb2 := Below.ch hb C2 (by simp) hb.size; have g2 : w2.cell? ⟨b2, off2 + k, none⟩ = some (.int .u64 gk) := ((Below.cells bb2).1 _ _ hb2l).trans hgk))
          | (go_at_call 15; go_must ((with_reducible refine (pipeAddAs _ p _ W.heap.size (1 + c) xs1 _ false false R2 (gk % 50) (by omega) (by omega) _ HADD.out).mono ?_); rintro e w3 ⟨rfl, R3, C3⟩; have g3 : w3.cell? ⟨b2, off2 + k, none⟩ = some (.int .u64 gk) := (C3.cell (p := ⟨b2, off2 + k, none⟩) (by have := hb.size; simp; omega) (by simp; omega)).trans g2))
          | (go_at_call 13; go_must ((with_reducible refine (pipeReadAs _ p _ W.heap.size (1 + c) xs1 _ false false R3 n1 HN1.out _ false _ _ false rfl rfl rfl rfl rfl).mono ?_); rintro e w4 ⟨rfl, R4, C4⟩))
          | (go_at_call 21; go_must ((with_reducible refine (pipeBytes _ p _ W.heap.size (1 + c) _ _ false false R4).mono ?_); rintro e w5 ⟨rfl, C5⟩; have R5 := R4.ch C5 (by simp) (by simp) (by simp); have d5 : w5.cell? ⟨p, 0, none⟩ = some (.pointer (some ⟨W.heap.size + 1, 0, none⟩)) := R5.blk.cell 0))
          | (go_at_call 19; go_must ((with_reducible refine (pipeCredit _ p (W.heap.size + 1) W.heap.size (1 + c) _ _ false false R5).mono ?_); rintro e w' ⟨rfl, rfl⟩))
          | (go_at_call 17; with_reducible refine (ringBLenAs _ _ W.heap.size (1 + c) _ R5.ring ((xs1.length : Int) - n1) HLN.out).mono ?_; rintro e w' ⟨rfl, rfl⟩)
          | (go_at_call 17; go_must ((with_reducible refine (ringBLenAs _ _ W.heap.size (1 + c) xs1 ?_ _ rfl).mono ?_); exact R2.ring; rintro e w' ⟨rfl, rfl⟩)))
        all_goals
          go_roundw
          case rel =>
            refine ⟨k + 1, os ++ xs1.take n1, xs1.drop n1, G + gk % 50, _, _, by omega, by go_num, rfl, rfl, rfl, ?_, ?_, ?_, ?_, ?_, ?_, ?_, ?_, ?_, ?_⟩
            · show _ = _; rw [HIN2.out, List.append_assoc, List.take_append_drop]
            · show _ = _; rw [hOUT.out, strOf_append]
            · rw [HIN2.out, strOf_size]; simp; omega
            · rw [ByteArray.size_append, strOf_size]; simp; omega
            · rw [ByteArray.size_append, strOf_size]; simp; omega
            · simp; omega
            · simp; omega
            · have e : ((G + gk % 50) - (os ++ xs1.take n1).length : Int) = (G + gk % 50 - os.length) - n1 := by simp; omega
              rw [e]; exact R5
            · exact Below.ch (Below.ch (Below.ch bb2 C3 (by simp; omega) (by omega)) C4 (by simp; omega) (by have := C3.size; omega)) C5 (by simp) (by have := C3.size; have := C4.size; omega)
            · have := C2.size; have := C3.size; have := C4.size; have := C5.size; omega
          case measure => simp [intOf]; omega
      · skip
        obtain ⟨n1, hn1⟩ : ∃ n1, min (G - os.length).toNat xs1.length = n1 := ⟨_, rfl⟩
        have hn1l : n1 ≤ xs1.length ∧ (n1 : Int) ≤ G - os.length ∧ (n1 < xs1.length → (n1 : Int) = G - os.length) := by omega
        have HN1 := hid hn1
        have HLN : Hid (((xs1.drop n1).length : Int) = (xs1.length : Int) - n1) := by show _ = _; rw [List.length_drop]; omega
        have hT1 : (strOfNums (xs1.take n1)).size ≤ n1 ∧ n1 ≤ (strOfNums (xs1.take n1)).size := by rw [strOf_size, List.length_take]; omega
        have hT2 : (strOfNums (xs1.drop n1)).size + n1 ≤ xs1.length := by rw [strOf_size, List.length_drop]; omega
        have hcmp : (OUT ++ strOfNums (xs1.take n1) ++ strOfNums (xs1.drop n1)).toList = (IN ++ s.extract 0 M).toList := by
          rw [HIN2.out, hOUT.out, strOf_append, strOf_append, List.append_assoc, List.take_append_drop]
        clear hn1
        go_wp2_with (first
          | (go_at_call 11; go_must ((with_reducible refine (pipeWriteAs _ p _ W.heap.size (1 + c) xs _ false false hR s (by have := HS.out; unfold maxLen; omega) rfl M HM.out xs1 HX1.out).mono ?_); rintro e w2 ⟨rfl, R2, C2⟩; have f2 : w2.cell? ⟨b, off + k, none⟩ = some (.string s) := (C2.cell (p := ⟨b, off + k, none⟩) (by have := hb.size; simp; omega) (by simp; omega)).trans f1; have d0 : w2.cell? ⟨p, 0, none⟩ = some (.pointer (some ⟨W.heap.size + 1, 0, none⟩)) := R2.blk.cell 0; have hz2 := C2.size; have bb2 := Below.ch hb C2 (by simp) hb.size))
          | (go_at_call 13; go_must ((with_reducible refine (pipeReadAs _ p _ W.heap.size (1 + c) xs1 _ false false R2 n1 HN1.out _ false _ _ false rfl rfl rfl rfl rfl).mono ?_); rintro e w4 ⟨rfl, R4, C4⟩))
          | (go_at_call 21; go_must ((with_reducible refine (pipeBytes _ p _ W.heap.size (1 + c) _ _ false false R4).mono ?_); rintro e w5 ⟨rfl, C5⟩; have R5 := R4.ch C5 (by simp) (by simp) (by simp); have d5 : w5.cell? ⟨p, 0, none⟩ = some (.pointer (some ⟨W.heap.size + 1, 0, none⟩)) := R5.blk.cell 0))
          | (go_at_call 19; go_must ((with_reducible refine (pipeCredit _ p (W.heap.size + 1) W.heap.size (1 + c) _ _ false false R5).mono ?_); rintro e w' ⟨rfl, rfl⟩))
          | (go_at_call 17; with_reducible refine (ringBLenAs _ _ W.heap.size (1 + c) _ R5.ring ((xs1.length : Int) - n1) HLN.out).mono ?_; rintro e w' ⟨rfl, rfl⟩)
          | (go_at_call 17; go_must ((with_reducible refine (ringBLenAs _ _ W.heap.size (1 + c) xs1 ?_ _ rfl).mono ?_); exact R2.ring; rintro e w' ⟨rfl, rfl⟩)))
        all_goals
          go_roundw
          case rel =>
            refine ⟨k + 1, os ++ xs1.take n1, xs1.drop n1, G, _, _, by omega, by go_num, rfl, rfl, rfl, ?_, ?_, ?_, ?_, ?_, ?_, ?_, ?_, ?_, ?_⟩
            · show _ = _; rw [HIN2.out, List.append_assoc, List.take_append_drop]
            · show _ = _; rw [hOUT.out, strOf_append]
            · rw [HIN2.out, strOf_size]; simp; omega
            · rw [ByteArray.size_append, strOf_size]; simp; omega
            · rw [ByteArray.size_append, strOf_size]; simp; omega
            · simp; omega
            · simp; omega
            · have e : (G - (os ++ xs1.take n1).length : Int) = (G - os.length) - n1 := by simp; omega
              rw [e]; exact R5
            · exact Below.ch (Below.ch bb2 C4 (by simp; omega) (by omega)) C5 (by simp) (by have := C4.size; omega)
            · have := C2.size; have := C4.size; have := C5.size; omega
          case measure => simp [intOf]; omega
    · have hor : len ≤ k ∨ k < len ∧ k = 60 := by omega
      rcases hor with h1 | ⟨h1, rfl⟩
      all_goals
        go_wp2_with (go_at_call 16; with_reducible refine (pipeAwake _).mono ?_; rintro e w0 ⟨rfl, hb0⟩)
        go_ret
        exact ⟨rfl, hb.trans (hb0.mono hb.size)⟩
end Go.Proofs.Ythdjnidaahhjbaa
