/- ginnelref24.policyRow, Precedence, Label. -/
import Derived.Test.YtjabeabbaambcaaDoorPolL
import Derived.Test.YtjabeabbaambcaaDoorPolR
import Derived.Test.YtjabeabbaambcaaDoorRefPfx
namespace Go.Proofs.YtjabeabbaambcaaDoor
open Go.RowKit

set_option maxRecDepth 20000 in
set_option maxHeartbeats 8000000 in
theorem refRowNo (six : Bool) (av : List Int) (hg : GoodA av) (hv : validA six av = false) (w : World) : Calls Tryd.prog 93 #[.agg (addrC six av).toArray] w fun e w' => e = .returned (.tuple #[.agg (rowC ((false, zeros, 0), 0, 0)).toArray, .bool false]) ∧ Ch [] w w' := by
  have BA : Blk ((w.alloc (.cells (addrC six av).toArray 29)).alloc (.cells #[.bool false, .int .u8 0, .int .u8 0, .int .u8 0, .int .u8 0, .int .u8 0, .int .u8 0, .int .u8 0, .int .u8 0, .int .u8 0, .int .u8 0, .int .u8 0, .int .u8 0, .int .u8 0, .int .u8 0, .int .u8 0, .int .u8 0, .int .i64 0, .int .i64 0, .int .i64 0] 75)) w.heap.size 29 (addrC six av) := (Blk.new w 29 (addrC six av)).alloc _
  have B1 : Blk ((w.alloc (.cells (addrC six av).toArray 29)).alloc (.cells #[.bool false, .int .u8 0, .int .u8 0, .int .u8 0, .int .u8 0, .int .u8 0, .int .u8 0, .int .u8 0, .int .u8 0, .int .u8 0, .int .u8 0, .int .u8 0, .int .u8 0, .int .u8 0, .int .u8 0, .int .u8 0, .int .u8 0, .int .i64 0, .int .i64 0, .int .i64 0] 75)) (w.heap.size + 1) 75 (rowC ((false, zeros, 0), 0, 0)) := Blk.newAt _ 75 (rowC ((false, zeros, 0), 0, 0)) (by simp)
  have CC : Ch [] w ((w.alloc (.cells (addrC six av).toArray 29)).alloc (.cells #[.bool false, .int .u8 0, .int .u8 0, .int .u8 0, .int .u8 0, .int .u8 0, .int .u8 0, .int .u8 0, .int .u8 0, .int .u8 0, .int .u8 0, .int .u8 0, .int .u8 0, .int .u8 0, .int .u8 0, .int .u8 0, .int .u8 0, .int .i64 0, .int .i64 0, .int .i64 0] 75)) := ((Ch.refl _ _).alloc _).alloc _
  have HIR1 := hid (row_inf (r := row1) rfl)
  have HR0 := hid (row_inf (r := ((false, zeros, 0), 0, 0)) rfl)
  have HI := hid (addr_inf (six := six) hg.1)
  have HV := hid (refValid six av hg.1)
  rw [hv] at HV
  generalize addrC six av = cs at BA B1 CC HI HV ⊢
  clear hg hv
  go_enter Tryd.func93, Tryd.ntmps93
  go_wp2_with (first
    | go_skip
    | (refine wpList_loadB rfl 29 _ rfl w.heap.size 29 cs _ rfl BA Tryd.underlying29 rfl HI.out ?_)
    | (refine wpList_storeB rfl 75 _ _ rfl (w.heap.size + 1) 75 (rowC ((false, zeros, 0), 0, 0)) (rowC ((false, zeros, 0), 0, 0)) rfl rfl B1 HR0.out rfl (row_one _) ?_; intro w7 B7 C7 Z7)
    | (go_at_call 30; (with_reducible refine (HV.out _).mono ?_); rintro e wn ⟨rfl, Cn⟩; replace BA := BA.ch Cn (by simp); replace B1 := B1.ch Cn (by simp); replace CC := CC.trans Cn; clear Cn))
  try simp only [Exit.inBlock, Exit.then]
  refine bodyPost_ret (results_rowF2 rfl _ _ rfl B7 Tryd.underlying75 rfl HR0.out) rfl ?_
  exact ⟨rfl, CC.step C7 (fun i hi => .inr (by simp at hi; omega))⟩

set_option maxRecDepth 20000 in
set_option maxHeartbeats 8000000 in
theorem refRow6 (m : List Int) (hgm : GoodA m) (w : World) : Calls Tryd.prog 93 #[.agg (addrC true m).toArray] w fun e w' => e = .returned (.tuple #[.agg (rowC (polT.foldl (polS m) row1)).toArray, .bool true]) ∧ Ch [] w w' := by
  have BA : Blk ((w.alloc (.cells (addrC true m).toArray 29)).alloc (.cells #[.bool false, .int .u8 0, .int .u8 0, .int .u8 0, .int .u8 0, .int .u8 0, .int .u8 0, .int .u8 0, .int .u8 0, .int .u8 0, .int .u8 0, .int .u8 0, .int .u8 0, .int .u8 0, .int .u8 0, .int .u8 0, .int .u8 0, .int .i64 0, .int .i64 0, .int .i64 0] 75)) w.heap.size 29 (addrC true m) := (Blk.new w 29 (addrC true m)).alloc _
  have B1 : Blk ((w.alloc (.cells (addrC true m).toArray 29)).alloc (.cells #[.bool false, .int .u8 0, .int .u8 0, .int .u8 0, .int .u8 0, .int .u8 0, .int .u8 0, .int .u8 0, .int .u8 0, .int .u8 0, .int .u8 0, .int .u8 0, .int .u8 0, .int .u8 0, .int .u8 0, .int .u8 0, .int .u8 0, .int .i64 0, .int .i64 0, .int .i64 0] 75)) (w.heap.size + 1) 75 (rowC ((false, zeros, 0), 0, 0)) := Blk.newAt _ 75 (rowC ((false, zeros, 0), 0, 0)) (by simp)
  have CC : Ch [] w ((w.alloc (.cells (addrC true m).toArray 29)).alloc (.cells #[.bool false, .int .u8 0, .int .u8 0, .int .u8 0, .int .u8 0, .int .u8 0, .int .u8 0, .int .u8 0, .int .u8 0, .int .u8 0, .int .u8 0, .int .u8 0, .int .u8 0, .int .u8 0, .int .u8 0, .int .u8 0, .int .u8 0, .int .i64 0, .int .i64 0, .int .i64 0] 75)) := ((Ch.refl _ _).alloc _).alloc _
  have HIR1 := hid (row_inf (r := row1) rfl)
  have HR0 := hid (row_inf (r := ((false, zeros, 0), 0, 0)) rfl)
  have HI := hid (addr_inf (six := true) hgm.1)
  have HIM := HI
  have HV := hid (refValid true m hgm.1)
  rw [show validA true m = true from rfl] at HV
  have K0 : Hid ((addrC true m)[0]? = some (.bool true)) := by show _ = _; rfl
  go_enter Tryd.func93, Tryd.ntmps93
  go_wp2_with (first
    | go_skip
    | (refine wpList_loadB rfl 29 _ rfl w.heap.size 29 (addrC true m) _ rfl BA Tryd.underlying29 rfl HI.out ?_)
    | (refine wpList_load_want rfl 75 _ rfl g 20 rfl (rowC row1) _ HR1 Tryd.underlying75 rfl HIR1.out ?_)
    | (refine wpList_storeB rfl 75 _ _ rfl w4.heap.size 75 (rowC ((false, zeros, 0), 0, 0)) (rowC row1) rfl rfl (Blk.new _ _ _) HIR1.out rfl (row_one _) ?_; intro w5 B2 C5 Z5; clear Z5; have BA5 := (BA.alloc _).ch C5 (by simp; omega); have B15 := (B1.alloc _).ch C5 (by simp; omega); have CC5 := (CC.alloc _).step C5 (fun i hi => .inr (by simp at hi; omega)); have CT5 : Ch [w4.heap.size] w4 w5 := ((Ch.refl _ w4).alloc _).step C5 (fun i hi => .inl hi))
    | (go_at_call 30; (with_reducible refine (HV.out _).mono ?_); rintro e wn ⟨rfl, Cn⟩; replace BA := BA.ch Cn (by simp); replace B1 := B1.ch Cn (by simp); replace CC := CC.trans Cn; have c0 := (BA.cell 0).trans K0.out; clear Cn)
    | (go_at_call 48; (with_reducible refine (refRows _).mono ?_); rintro e w4 ⟨T, cT, rfl, own, Cn⟩; replace BA := BA.ch Cn (by simp); replace B1 := B1.ch Cn (by simp); replace CC := CC.trans Cn; obtain ⟨g, rfl, hg0, hg1⟩ := own.form (by decide); have HROW := hid (own_rows20 own); have HR1 : w4.rangeAt g 20 (rowC row1) := own_rows20 own 1 row1 rfl; have lt4 := BA.lt; have lt5 := B1.lt; have sz4 := CC.size; clear own Cn))
  have HGB : Hid (w.heap.size ≤ w4.heap.size ∧ w.heap.size ≠ w4.heap.size ∧ w.heap.size + 1 ≠ w4.heap.size ∧ g < w4.heap.size) := ⟨by omega, by omega, by omega, by omega⟩
  have HRW : Hid (∀ (k : Nat) (r : PRow), polT[k]? = some r → ∀ w', Ch [w4.heap.size] w4 w' → w'.rangeAt g (k * 20) (rowC r)) := fun k r hr w' h => range_ch (HROW.out k r hr) h hg1 (by simp; omega)
  clear HROW HR1
  obtain ⟨gb, hgb0⟩ : ∃ gb, w4.heap.size = gb := ⟨_, rfl⟩
  rw [hgb0] at HGB HRW B2 CT5 ⊢
  clear hgb0 BA B1 CC
  go_loopw [6] (fun i wr => ∃ k : Nat, k ≤ 9 ∧ i = .int .i64 k ∧ Blk wr w.heap.size 29 (addrC true m) ∧ Blk wr (w.heap.size + 1) 75 (rowC ((false, zeros, 0), 0, 0)) ∧ Blk wr gb 75 (rowC ((polT.take k).foldl (polS m) row1)) ∧ Ch [gb] w4 wr ∧ Ch [] w wr) (fun i _ => 9 - (intOf i).toNat)
  case atStart => exact ⟨0, by omega, rfl, BA5, B15, B2, CT5, CC5⟩
  case round =>
    clear BA5 B15 B2 CT5 CC5
    obtain ⟨k, hk, rfl, BM, B1, B2, CT, CC⟩ := hrel
    have hgb := fold_good m row1 rfl k
    by_cases hlt : k < 9
    · obtain ⟨r, hr, hgr⟩ := polT_at k hlt
      have HN := hid (fold_next (m := m) (r0 := row1) hr)
      have HRR : Hid (∀ w', Ch [] wr w' → w'.rangeAt g (k * 20) (rowC r)) := fun w' h => HRW.out k r hr w' (CT.step h (fun i hi => by simp at hi))
      have HRP : Hid (∀ w', Ch [] wr w' → w'.rangeAt g (k * 20) (pfxC r.1)) := fun w' h j v hj => HRR.out w' h j v (by have := row_pfx (r := r) hj; rwa [Nat.zero_add] at this)
      have HRA : Hid (∀ w', Ch [] wr w' → w'.rangeAt w.heap.size 0 (addrC true m)) := fun w' h => (BM.ch h (by simp)).range
      have HIR := hid (row_inf (r := r) hgr.1)
      have HIP := hid (pfx_inf (p := r.1) hgr.1)
      have HLR : Hid ((rowC r).length = 20) := row_len hgr.1
      have hR17 : ∀ x : After wr, x.w.cell? ⟨g, k * 20 + 17, none⟩ = some (.int .i64 r.1.2.2) := fun x => HRR.out _ x.ch 17 _ (row_bits hgr.1)
      have HC : Hid (∀ w, Calls Tryd.prog 70 #[.agg (pfxC r.1).toArray, .agg (addrC true m).toArray] w fun e w' => e = .returned (.bool (contP r.1 true m)) ∧ Ch [] w w') := refContPfx r.1.1 r.1.2.1 r.1.2.2 hgr true m hgm
      clear hr hgr
      generalize hbb : (polT.take k).foldl (polS m) row1 = b at B2 HN hgb
      have hB17 : ∀ x : After wr, x.w.cell? ⟨gb, 17, none⟩ = some (.int .i64 b.1.2.2) := fun x => ((B2.ch x.ch (by simp)).cell 17).trans (row_bits hgb)
      have HLB : Hid ((rowC b).length = 20) := row_len hgb
      have hk0 : (0 : Int) ≤ k := by omega
      have hk9 : (k : Int) < 9 := by omega
      have hPS : Hid (polS m b r = if decide (b.1.2.2 < r.1.2.2) && contP r.1 true m then r else b) := by show _ = _; rfl
      clear hbb hgb
      obtain ⟨nb, hnb⟩ : ∃ nb, b.1.2.2 = nb := ⟨_, rfl⟩
      obtain ⟨nr, hnr⟩ : ∃ nr, r.1.2.2 = nr := ⟨_, rfl⟩
      obtain ⟨V, hV⟩ : ∃ V, contP r.1 true m = V := ⟨_, rfl⟩
      rw [hnb, hnr, hV] at hPS
      simp only [hnb] at hB17
      simp only [hnr] at hR17
      rw [hV] at HC
      clear hnb hnr hV
      by_cases hgt : nb < nr
      · have d1 : decide (nb < nr) = true := by simpa using hgt
        rw [d1] at hPS
        cases V with
        | true =>
          have HE : Hid ((polT.take (k + 1)).foldl (polS m) row1 = r) := by show _ = _; rw [HN.out, hPS.out]; rfl
          go_wp2_with fail
          refine wp_region_quietA (wr) (by kernel_rfl) (by kernel_rfl) (Ch.refl _ _) ?_
          repeat (first
            | (go_big_quiet_want; refine quiet_rowA 49 _ rfl g (k * 20) rfl (pfxC r.1) _ HRP.out Tryd.underlying49 rfl HIP.out ?_; simp only [Act.put, List.setIfInBounds_toArray, List.set_cons_succ, List.set_cons_zero]; go_big_quiet_on)
            | (go_big_quiet_want; refine quiet_rowA 29 _ rfl w.heap.size 0 rfl (addrC true m) _ HRA.out Tryd.underlying29 rfl HIM.out ?_; simp only [Act.put, List.setIfInBounds_toArray, List.set_cons_succ, List.set_cons_zero]; go_big_quiet_on)
            | go_big_quiet_step (first
              | (go_at_call 70; with_reducible exact after_of (HC.out _))))
          refine wpQuiet_nil ?_
          intro wq hwq
          have BMq := BM.ch hwq (by simp)
          have B1q := B1.ch hwq (by simp)
          have B2q := B2.ch hwq (by simp)
          have CTq : Ch [gb] w4 wq := CT.step hwq (fun i hi => by simp at hi)
          have CCq := CC.trans hwq
          have HRq := HRR.out _ hwq
          clear hR17 hB17
          go_wp2_with (first
            | (refine wpList_load_want rfl 75 _ rfl g (k * 20) rfl (rowC r) _ HRq Tryd.underlying75 rfl HIR.out ?_)
            | (refine wpList_storeB rfl 75 _ _ rfl gb 75 (rowC b) (rowC r) rfl rfl B2q HIR.out (by rw [HLB.out, HLR.out]) (row_one _) ?_; intro w6 B26 C6 Z6; clear Z6; have BM6 := BMq.ch C6 (by simp; have := HGB.out; omega); have B16 := B1q.ch C6 (by simp; have := HGB.out; omega); have CT6 := CTq.step C6 (fun i hi => .inl hi); have CC6 := CCq.step C6 (fun i hi => .inr (by simp at hi; have := HGB.out; omega))))
          go_roundw
          case rel => exact ⟨k + 1, by omega, by go_num, BM6, B16, by rw [HE.out]; exact B26, CT6, CC6⟩
          case measure => simp [intOf]; omega
        | false =>
          have HE : Hid ((polT.take (k + 1)).foldl (polS m) row1 = b) := by show _ = _; rw [HN.out, hPS.out]; rfl
          go_wp2_with fail
          refine wp_region_quietA (wr) (by kernel_rfl) (by kernel_rfl) (Ch.refl _ _) ?_
          repeat (first
            | (go_big_quiet_want; refine quiet_rowA 49 _ rfl g (k * 20) rfl (pfxC r.1) _ HRP.out Tryd.underlying49 rfl HIP.out ?_; simp only [Act.put, List.setIfInBounds_toArray, List.set_cons_succ, List.set_cons_zero]; go_big_quiet_on)
            | (go_big_quiet_want; refine quiet_rowA 29 _ rfl w.heap.size 0 rfl (addrC true m) _ HRA.out Tryd.underlying29 rfl HIM.out ?_; simp only [Act.put, List.setIfInBounds_toArray, List.set_cons_succ, List.set_cons_zero]; go_big_quiet_on)
            | go_big_quiet_step (first
              | (go_at_call 70; with_reducible exact after_of (HC.out _))))
          refine wpQuiet_nil ?_
          intro wq hwq
          go_wp2_with fail
          go_roundw
          case rel => exact ⟨k + 1, by omega, by go_num, BM.ch hwq (by simp), B1.ch hwq (by simp), by rw [HE.out]; exact B2.ch hwq (by simp), CT.step hwq (fun i hi => by simp at hi), CC.trans hwq⟩
          case measure => simp [intOf]; omega
      · have d1 : decide (nb < nr) = false := by simpa using hgt
        rw [d1] at hPS
        have HE : Hid ((polT.take (k + 1)).foldl (polS m) row1 = b) := by show _ = _; rw [HN.out, hPS.out]; rfl
        go_wp2_with fail
        refine wp_region_quietA (wr) (by kernel_rfl) (by kernel_rfl) (Ch.refl _ _) ?_
        repeat (first
          | (go_big_quiet_want; refine quiet_rowA 49 _ rfl g (k * 20) rfl (pfxC r.1) _ HRP.out Tryd.underlying49 rfl HIP.out ?_; simp only [Act.put, List.setIfInBounds_toArray, List.set_cons_succ, List.set_cons_zero]; go_big_quiet_on)
          | (go_big_quiet_want; refine quiet_rowA 29 _ rfl w.heap.size 0 rfl (addrC true m) _ HRA.out Tryd.underlying29 rfl HIM.out ?_; simp only [Act.put, List.setIfInBounds_toArray, List.set_cons_succ, List.set_cons_zero]; go_big_quiet_on)
          | go_big_quiet_step (fail))
        refine wpQuiet_nil ?_
        intro wq hwq
        go_wp2_with fail
        go_roundw
        case rel => exact ⟨k + 1, by omega, by go_num, BM.ch hwq (by simp), B1.ch hwq (by simp), by rw [HE.out]; exact B2.ch hwq (by simp), CT.step hwq (fun i hi => by simp at hi), CC.trans hwq⟩
        case measure => simp [intOf]; omega
    · obtain rfl : k = 9 := by omega
      rw [List.take_of_length_le (by rw [pol_len]; omega)] at B2 hgb
      generalize hbb : polT.foldl (polS m) row1 = b at B2 hgb
      have HIB := hid (row_inf (r := b) hgb)
      have HLB : Hid ((rowC b).length = 20) := row_len hgb
      have HBB := hid hbb
      clear hbb
      go_wp2_with (first
        | (refine wpList_loadB rfl 75 _ rfl gb 75 (rowC b) _ rfl B2 Tryd.underlying75 rfl HIB.out ?_)
        | (refine wpList_storeB rfl 75 _ _ rfl (w.heap.size + 1) 75 (rowC ((false, zeros, 0), 0, 0)) (rowC b) rfl rfl B1 HIB.out (by rw [HLB.out]; rfl) (row_one _) ?_; intro w7 B7 C7 Z7))
      try simp only [Exit.inBlock, Exit.then]
      refine bodyPost_ret (results_rowF2 rfl _ _ rfl B7 Tryd.underlying75 rfl HIB.out) rfl ?_
      exact ⟨by (try rw [HMM.out]); rw [HBB.out]; rfl, CC.step C7 (fun i hi => .inr (by simp at hi; omega))⟩

set_option maxRecDepth 20000 in
set_option maxHeartbeats 8000000 in
theorem refRow4 (b0 b1 b2 b3 b4 b5 b6 b7 b8 b9 b10 b11 b12 b13 b14 b15 : Int) (hg : GoodA [b0, b1, b2, b3, b4, b5, b6, b7, b8, b9, b10, b11, b12, b13, b14, b15]) (hv : validA false [b0, b1, b2, b3, b4, b5, b6, b7, b8, b9, b10, b11, b12, b13, b14, b15] = true) (w : World) : Calls Tryd.prog 93 #[.agg #[.bool false, .int .u8 b0, .int .u8 b1, .int .u8 b2, .int .u8 b3, .int .u8 b4, .int .u8 b5, .int .u8 b6, .int .u8 b7, .int .u8 b8, .int .u8 b9, .int .u8 b10, .int .u8 b11, .int .u8 b12, .int .u8 b13, .int .u8 b14, .int .u8 b15]] w fun e w' => e = .returned (.tuple #[.agg (rowC (polT.foldl (polS (mapA b0 b1 b2 b3)) row1)).toArray, .bool true]) ∧ Ch [] w w' := by
  have BA : Blk ((w.alloc (.cells #[.bool false, .int .u8 b0, .int .u8 b1, .int .u8 b2, .int .u8 b3, .int .u8 b4, .int .u8 b5, .int .u8 b6, .int .u8 b7, .int .u8 b8, .int .u8 b9, .int .u8 b10, .int .u8 b11, .int .u8 b12, .int .u8 b13, .int .u8 b14, .int .u8 b15] 29)).alloc (.cells #[.bool false, .int .u8 0, .int .u8 0, .int .u8 0, .int .u8 0, .int .u8 0, .int .u8 0, .int .u8 0, .int .u8 0, .int .u8 0, .int .u8 0, .int .u8 0, .int .u8 0, .int .u8 0, .int .u8 0, .int .u8 0, .int .u8 0, .int .i64 0, .int .i64 0, .int .i64 0] 75)) w.heap.size 29 (addrC false [b0, b1, b2, b3, b4, b5, b6, b7, b8, b9, b10, b11, b12, b13, b14, b15]) := (Blk.new w 29 (addrC false [b0, b1, b2, b3, b4, b5, b6, b7, b8, b9, b10, b11, b12, b13, b14, b15])).alloc _
  have B1 : Blk ((w.alloc (.cells #[.bool false, .int .u8 b0, .int .u8 b1, .int .u8 b2, .int .u8 b3, .int .u8 b4, .int .u8 b5, .int .u8 b6, .int .u8 b7, .int .u8 b8, .int .u8 b9, .int .u8 b10, .int .u8 b11, .int .u8 b12, .int .u8 b13, .int .u8 b14, .int .u8 b15] 29)).alloc (.cells #[.bool false, .int .u8 0, .int .u8 0, .int .u8 0, .int .u8 0, .int .u8 0, .int .u8 0, .int .u8 0, .int .u8 0, .int .u8 0, .int .u8 0, .int .u8 0, .int .u8 0, .int .u8 0, .int .u8 0, .int .u8 0, .int .u8 0, .int .i64 0, .int .i64 0, .int .i64 0] 75)) (w.heap.size + 1) 75 (rowC ((false, zeros, 0), 0, 0)) := Blk.newAt _ 75 (rowC ((false, zeros, 0), 0, 0)) (by simp)
  have CC : Ch [] w ((w.alloc (.cells #[.bool false, .int .u8 b0, .int .u8 b1, .int .u8 b2, .int .u8 b3, .int .u8 b4, .int .u8 b5, .int .u8 b6, .int .u8 b7, .int .u8 b8, .int .u8 b9, .int .u8 b10, .int .u8 b11, .int .u8 b12, .int .u8 b13, .int .u8 b14, .int .u8 b15] 29)).alloc (.cells #[.bool false, .int .u8 0, .int .u8 0, .int .u8 0, .int .u8 0, .int .u8 0, .int .u8 0, .int .u8 0, .int .u8 0, .int .u8 0, .int .u8 0, .int .u8 0, .int .u8 0, .int .u8 0, .int .u8 0, .int .u8 0, .int .u8 0, .int .i64 0, .int .i64 0, .int .i64 0] 75)) := ((Ch.refl _ _).alloc _).alloc _
  have HIR1 := hid (row_inf (r := row1) rfl)
  have HR0 := hid (row_inf (r := ((false, zeros, 0), 0, 0)) rfl)
  have HI := hid (addr_inf (six := false) (bs := [b0, b1, b2, b3, b4, b5, b6, b7, b8, b9, b10, b11, b12, b13, b14, b15]) rfl)
  have hgm : GoodA (mapA b0 b1 b2 b3) := map6_good (six := false) hg.1 hg.2
  have HIM := hid (addr_inf (six := true) hgm.1)
  have HV : Hid (∀ w, Calls Tryd.prog 30 #[.agg #[.bool false, .int .u8 b0, .int .u8 b1, .int .u8 b2, .int .u8 b3, .int .u8 b4, .int .u8 b5, .int .u8 b6, .int .u8 b7, .int .u8 b8, .int .u8 b9, .int .u8 b10, .int .u8 b11, .int .u8 b12, .int .u8 b13, .int .u8 b14, .int .u8 b15]] w fun e w' => e = .returned (.bool (validA false [b0, b1, b2, b3, b4, b5, b6, b7, b8, b9, b10, b11, b12, b13, b14, b15])) ∧ Ch [] w w') := refValid false [b0, b1, b2, b3, b4, b5, b6, b7, b8, b9, b10, b11, b12, b13, b14, b15] rfl
  rw [hv] at HV
  have K0 : Hid ((addrC false [b0, b1, b2, b3, b4, b5, b6, b7, b8, b9, b10, b11, b12, b13, b14, b15])[0]? = some (.bool false)) := by show _ = _; rfl
  clear hv hg
  go_enter Tryd.func93, Tryd.ntmps93
  go_wp2_with (first
    | go_skip
    | (refine wpList_loadB rfl 29 _ rfl w.heap.size 29 [.bool false, .int .u8 b0, .int .u8 b1, .int .u8 b2, .int .u8 b3, .int .u8 b4, .int .u8 b5, .int .u8 b6, .int .u8 b7, .int .u8 b8, .int .u8 b9, .int .u8 b10, .int .u8 b11, .int .u8 b12, .int .u8 b13, .int .u8 b14, .int .u8 b15] _ rfl BA Tryd.underlying29 rfl HI.out ?_)
    | (refine wpList_storeB rfl 29 _ _ rfl w.heap.size 29 (addrC false [b0, b1, b2, b3, b4, b5, b6, b7, b8, b9, b10, b11, b12, b13, b14, b15]) (addrC true (mapA b0 b1 b2 b3)) rfl rfl BA HIM.out rfl (addr_one' _ _) ?_; intro w3 BA3 C3 Z3; clear Z3; clear BA; have BA := BA3; replace B1 := B1.ch C3 (by simp); replace CC := CC.step C3 (fun i hi => .inr (by simp at hi; omega)); clear C3)
    | (refine wpList_load_want rfl 75 _ rfl g 20 rfl (rowC row1) _ HR1 Tryd.underlying75 rfl HIR1.out ?_)
    | (refine wpList_storeB rfl 75 _ _ rfl w4.heap.size 75 (rowC ((false, zeros, 0), 0, 0)) (rowC row1) rfl rfl (Blk.new _ _ _) HIR1.out rfl (row_one _) ?_; intro w5 B2 C5 Z5; clear Z5; have BA5 := (BA.alloc _).ch C5 (by simp; omega); have B15 := (B1.alloc _).ch C5 (by simp; omega); have CC5 := (CC.alloc _).step C5 (fun i hi => .inr (by simp at hi; omega)); have CT5 : Ch [w4.heap.size] w4 w5 := ((Ch.refl _ w4).alloc _).step C5 (fun i hi => .inl hi))
    | (go_at_call 30; (with_reducible refine (HV.out _).mono ?_); rintro e wn ⟨rfl, Cn⟩; replace BA := BA.ch Cn (by simp); replace B1 := B1.ch Cn (by simp); replace CC := CC.trans Cn; have c0 := (BA.cell 0).trans K0.out; have c1 : wn.cell? ⟨w.heap.size, 1, none⟩ = some (.int .u8 b0) := BA.cell 1; have c2 : wn.cell? ⟨w.heap.size, 2, none⟩ = some (.int .u8 b1) := BA.cell 2; have c3 : wn.cell? ⟨w.heap.size, 3, none⟩ = some (.int .u8 b2) := BA.cell 3; have c4 : wn.cell? ⟨w.heap.size, 4, none⟩ = some (.int .u8 b3) := BA.cell 4; clear Cn)
    | (go_at_call 48; (with_reducible refine (refRows _).mono ?_); rintro e w4 ⟨T, cT, rfl, own, Cn⟩; replace BA := BA.ch Cn (by simp); replace B1 := B1.ch Cn (by simp); replace CC := CC.trans Cn; obtain ⟨g, rfl, hg0, hg1⟩ := own.form (by decide); have HROW := hid (own_rows20 own); have HR1 : w4.rangeAt g 20 (rowC row1) := own_rows20 own 1 row1 rfl; have lt4 := BA.lt; have lt5 := B1.lt; have sz4 := CC.size; clear own Cn))
  generalize hmm : mapA b0 b1 b2 b3 = m at hgm HIM BA5 ⊢
  have HMM := hid hmm
  clear hmm
  have HGB : Hid (w.heap.size ≤ w4.heap.size ∧ w.heap.size ≠ w4.heap.size ∧ w.heap.size + 1 ≠ w4.heap.size ∧ g < w4.heap.size) := ⟨by omega, by omega, by omega, by omega⟩
  have HRW : Hid (∀ (k : Nat) (r : PRow), polT[k]? = some r → ∀ w', Ch [w4.heap.size] w4 w' → w'.rangeAt g (k * 20) (rowC r)) := fun k r hr w' h => range_ch (HROW.out k r hr) h hg1 (by simp; omega)
  clear HROW HR1
  obtain ⟨gb, hgb0⟩ : ∃ gb, w4.heap.size = gb := ⟨_, rfl⟩
  rw [hgb0] at HGB HRW B2 CT5 ⊢
  clear hgb0 BA B1 CC
  go_loopw [6] (fun i wr => ∃ k : Nat, k ≤ 9 ∧ i = .int .i64 k ∧ Blk wr w.heap.size 29 (addrC true m) ∧ Blk wr (w.heap.size + 1) 75 (rowC ((false, zeros, 0), 0, 0)) ∧ Blk wr gb 75 (rowC ((polT.take k).foldl (polS m) row1)) ∧ Ch [gb] w4 wr ∧ Ch [] w wr) (fun i _ => 9 - (intOf i).toNat)
  case atStart => exact ⟨0, by omega, rfl, BA5, B15, B2, CT5, CC5⟩
  case round =>
    clear BA5 B15 B2 CT5 CC5
    obtain ⟨k, hk, rfl, BM, B1, B2, CT, CC⟩ := hrel
    have hgb := fold_good m row1 rfl k
    by_cases hlt : k < 9
    · obtain ⟨r, hr, hgr⟩ := polT_at k hlt
      have HN := hid (fold_next (m := m) (r0 := row1) hr)
      have HRR : Hid (∀ w', Ch [] wr w' → w'.rangeAt g (k * 20) (rowC r)) := fun w' h => HRW.out k r hr w' (CT.step h (fun i hi => by simp at hi))
      have HRP : Hid (∀ w', Ch [] wr w' → w'.rangeAt g (k * 20) (pfxC r.1)) := fun w' h j v hj => HRR.out w' h j v (by have := row_pfx (r := r) hj; rwa [Nat.zero_add] at this)
      have HRA : Hid (∀ w', Ch [] wr w' → w'.rangeAt w.heap.size 0 (addrC true m)) := fun w' h => (BM.ch h (by simp)).range
      have HIR := hid (row_inf (r := r) hgr.1)
      have HIP := hid (pfx_inf (p := r.1) hgr.1)
      have HLR : Hid ((rowC r).length = 20) := row_len hgr.1
      have hR17 : ∀ x : After wr, x.w.cell? ⟨g, k * 20 + 17, none⟩ = some (.int .i64 r.1.2.2) := fun x => HRR.out _ x.ch 17 _ (row_bits hgr.1)
      have HC : Hid (∀ w, Calls Tryd.prog 70 #[.agg (pfxC r.1).toArray, .agg (addrC true m).toArray] w fun e w' => e = .returned (.bool (contP r.1 true m)) ∧ Ch [] w w') := refContPfx r.1.1 r.1.2.1 r.1.2.2 hgr true m hgm
      clear hr hgr
      generalize hbb : (polT.take k).foldl (polS m) row1 = b at B2 HN hgb
      have hB17 : ∀ x : After wr, x.w.cell? ⟨gb, 17, none⟩ = some (.int .i64 b.1.2.2) := fun x => ((B2.ch x.ch (by simp)).cell 17).trans (row_bits hgb)
      have HLB : Hid ((rowC b).length = 20) := row_len hgb
      have hk0 : (0 : Int) ≤ k := by omega
      have hk9 : (k : Int) < 9 := by omega
      have hPS : Hid (polS m b r = if decide (b.1.2.2 < r.1.2.2) && contP r.1 true m then r else b) := by show _ = _; rfl
      clear hbb hgb
      obtain ⟨nb, hnb⟩ : ∃ nb, b.1.2.2 = nb := ⟨_, rfl⟩
      obtain ⟨nr, hnr⟩ : ∃ nr, r.1.2.2 = nr := ⟨_, rfl⟩
      obtain ⟨V, hV⟩ : ∃ V, contP r.1 true m = V := ⟨_, rfl⟩
      rw [hnb, hnr, hV] at hPS
      simp only [hnb] at hB17
      simp only [hnr] at hR17
      rw [hV] at HC
      clear hnb hnr hV
      by_cases hgt : nb < nr
      · have d1 : decide (nb < nr) = true := by simpa using hgt
        rw [d1] at hPS
        cases V with
        | true =>
          have HE : Hid ((polT.take (k + 1)).foldl (polS m) row1 = r) := by show _ = _; rw [HN.out, hPS.out]; rfl
          go_wp2_with fail
          refine wp_region_quietA (wr) (by kernel_rfl) (by kernel_rfl) (Ch.refl _ _) ?_
          repeat (first
            | (go_big_quiet_want; refine quiet_rowA 49 _ rfl g (k * 20) rfl (pfxC r.1) _ HRP.out Tryd.underlying49 rfl HIP.out ?_; simp only [Act.put, List.setIfInBounds_toArray, List.set_cons_succ, List.set_cons_zero]; go_big_quiet_on)
            | (go_big_quiet_want; refine quiet_rowA 29 _ rfl w.heap.size 0 rfl (addrC true m) _ HRA.out Tryd.underlying29 rfl HIM.out ?_; simp only [Act.put, List.setIfInBounds_toArray, List.set_cons_succ, List.set_cons_zero]; go_big_quiet_on)
            | go_big_quiet_step (first
              | (go_at_call 70; with_reducible exact after_of (HC.out _))))
          refine wpQuiet_nil ?_
          intro wq hwq
          have BMq := BM.ch hwq (by simp)
          have B1q := B1.ch hwq (by simp)
          have B2q := B2.ch hwq (by simp)
          have CTq : Ch [gb] w4 wq := CT.step hwq (fun i hi => by simp at hi)
          have CCq := CC.trans hwq
          have HRq := HRR.out _ hwq
          clear hR17 hB17
          go_wp2_with (first
            | (refine wpList_load_want rfl 75 _ rfl g (k * 20) rfl (rowC r) _ HRq Tryd.underlying75 rfl HIR.out ?_)
            | (refine wpList_storeB rfl 75 _ _ rfl gb 75 (rowC b) (rowC r) rfl rfl B2q HIR.out (by rw [HLB.out, HLR.out]) (row_one _) ?_; intro w6 B26 C6 Z6; clear Z6; have BM6 := BMq.ch C6 (by simp; have := HGB.out; omega); have B16 := B1q.ch C6 (by simp; have := HGB.out; omega); have CT6 := CTq.step C6 (fun i hi => .inl hi); have CC6 := CCq.step C6 (fun i hi => .inr (by simp at hi; have := HGB.out; omega))))
          go_roundw
          case rel => exact ⟨k + 1, by omega, by go_num, BM6, B16, by rw [HE.out]; exact B26, CT6, CC6⟩
          case measure => simp [intOf]; omega
        | false =>
          have HE : Hid ((polT.take (k + 1)).foldl (polS m) row1 = b) := by show _ = _; rw [HN.out, hPS.out]; rfl
          go_wp2_with fail
          refine wp_region_quietA (wr) (by kernel_rfl) (by kernel_rfl) (Ch.refl _ _) ?_
          repeat (first
            | (go_big_quiet_want; refine quiet_rowA 49 _ rfl g (k * 20) rfl (pfxC r.1) _ HRP.out Tryd.underlying49 rfl HIP.out ?_; simp only [Act.put, List.setIfInBounds_toArray, List.set_cons_succ, List.set_cons_zero]; go_big_quiet_on)
            | (go_big_quiet_want; refine quiet_rowA 29 _ rfl w.heap.size 0 rfl (addrC true m) _ HRA.out Tryd.underlying29 rfl HIM.out ?_; simp only [Act.put, List.setIfInBounds_toArray, List.set_cons_succ, List.set_cons_zero]; go_big_quiet_on)
            | go_big_quiet_step (first
              | (go_at_call 70; with_reducible exact after_of (HC.out _))))
          refine wpQuiet_nil ?_
          intro wq hwq
          go_wp2_with fail
          go_roundw
          case rel => exact ⟨k + 1, by omega, by go_num, BM.ch hwq (by simp), B1.ch hwq (by simp), by rw [HE.out]; exact B2.ch hwq (by simp), CT.step hwq (fun i hi => by simp at hi), CC.trans hwq⟩
          case measure => simp [intOf]; omega
      · have d1 : decide (nb < nr) = false := by simpa using hgt
        rw [d1] at hPS
        have HE : Hid ((polT.take (k + 1)).foldl (polS m) row1 = b) := by show _ = _; rw [HN.out, hPS.out]; rfl
        go_wp2_with fail
        refine wp_region_quietA (wr) (by kernel_rfl) (by kernel_rfl) (Ch.refl _ _) ?_
        repeat (first
          | (go_big_quiet_want; refine quiet_rowA 49 _ rfl g (k * 20) rfl (pfxC r.1) _ HRP.out Tryd.underlying49 rfl HIP.out ?_; simp only [Act.put, List.setIfInBounds_toArray, List.set_cons_succ, List.set_cons_zero]; go_big_quiet_on)
          | (go_big_quiet_want; refine quiet_rowA 29 _ rfl w.heap.size 0 rfl (addrC true m) _ HRA.out Tryd.underlying29 rfl HIM.out ?_; simp only [Act.put, List.setIfInBounds_toArray, List.set_cons_succ, List.set_cons_zero]; go_big_quiet_on)
          | go_big_quiet_step (fail))
        refine wpQuiet_nil ?_
        intro wq hwq
        go_wp2_with fail
        go_roundw
        case rel => exact ⟨k + 1, by omega, by go_num, BM.ch hwq (by simp), B1.ch hwq (by simp), by rw [HE.out]; exact B2.ch hwq (by simp), CT.step hwq (fun i hi => by simp at hi), CC.trans hwq⟩
        case measure => simp [intOf]; omega
    · obtain rfl : k = 9 := by omega
      rw [List.take_of_length_le (by rw [pol_len]; omega)] at B2 hgb
      generalize hbb : polT.foldl (polS m) row1 = b at B2 hgb
      have HIB := hid (row_inf (r := b) hgb)
      have HLB : Hid ((rowC b).length = 20) := row_len hgb
      have HBB := hid hbb
      clear hbb
      go_wp2_with (first
        | (refine wpList_loadB rfl 75 _ rfl gb 75 (rowC b) _ rfl B2 Tryd.underlying75 rfl HIB.out ?_)
        | (refine wpList_storeB rfl 75 _ _ rfl (w.heap.size + 1) 75 (rowC ((false, zeros, 0), 0, 0)) (rowC b) rfl rfl B1 HIB.out (by rw [HLB.out]; rfl) (row_one _) ?_; intro w7 B7 C7 Z7))
      try simp only [Exit.inBlock, Exit.then]
      refine bodyPost_ret (results_rowF2 rfl _ _ rfl B7 Tryd.underlying75 rfl HIB.out) rfl ?_
      exact ⟨by (try rw [HMM.out]); rw [HBB.out]; rfl, CC.step C7 (fun i hi => .inr (by simp at hi; omega))⟩

theorem refRowYes (six : Bool) (av : List Int) (hg : GoodA av) (hv : validA six av = true) (w : World) : Calls Tryd.prog 93 #[.agg (addrC six av).toArray] w fun e w' => e = .returned (.tuple #[.agg (rowC (lookR six av)).toArray, .bool true]) ∧ Ch [] w w' := by
  cases six with
  | true => exact refRow6 av hg w
  | false =>
    obtain ⟨b0, b1, b2, b3, b4, b5, b6, b7, b8, b9, b10, b11, b12, b13, b14, b15, rfl⟩ := len16 hg.1
    exact refRow4 b0 b1 b2 b3 b4 b5 b6 b7 b8 b9 b10 b11 b12 b13 b14 b15 hg hv w

set_option maxRecDepth 20000 in
set_option maxHeartbeats 4000000 in
theorem refPrec (six : Bool) (av : List Int) (hg : GoodA av) (w : World) : Calls Tryd.prog 78 #[.agg (addrC six av).toArray] w fun e w' => e = .returned (.int .i64 (lookP six av).2.1) ∧ Ch [] w w' := by
  have BA : Blk (w.alloc (.cells (addrC six av).toArray 29)) w.heap.size 29 (addrC six av) := Blk.new w _ _
  have CC : Ch [] w (w.alloc (.cells (addrC six av).toArray 29)) := (Ch.refl _ _).alloc _
  have HI := hid (addr_inf (six := six) hg.1)
  have HN := hid (fun hv => refRowNo six av hg hv)
  have HY := hid (fun hv => refRowYes six av hg hv)
  rw [look_same hg.1 hg.2]
  cases hv : validA six av with
  | false =>
    rw [if_neg (by decide)]
    have HN2 := hid (HN.out hv)
    have HIZ := hid (row_inf (r := ((false, zeros, 0), 0, 0)) rfl)
    generalize addrC six av = cs at BA CC HI HN2 ⊢
    clear hg hv HN HY
    go_enter Tryd.func78, Tryd.ntmps78
    go_wp2_with (first
      | (refine wpList_loadB rfl 29 _ rfl w.heap.size 29 cs _ rfl BA Tryd.underlying29 rfl HI.out ?_)
      | (refine wpList_storeB rfl 75 _ _ rfl wn.heap.size 75 (rowC ((false, zeros, 0), 0, 0)) (rowC ((false, zeros, 0), 0, 0)) rfl rfl (Blk.new _ _ _) HIZ.out rfl (row_one _) ?_; intro w3 B3 C3 Z3; clear Z3; replace CC := (CC.alloc _).step C3 (fun i hi => .inr (by simp at hi; have := CC.size; omega)))
      | (go_at_call 93; (with_reducible refine (HN2.out _).mono ?_); rintro e wn ⟨rfl, Cn⟩; replace CC := CC.trans Cn))
    go_ret
    exact ⟨rfl, CC⟩
  | true =>
    rw [if_pos rfl]
    have HY2 := hid (HY.out hv)
    have hgl : GoodR (lookR six av) := (pol_good _ (look_mem six av)).2.1
    generalize lookR six av = r at HY2 hgl ⊢
    obtain ⟨⟨s6, ps, n⟩, pr, lb⟩ := r
    obtain ⟨b0, b1, b2, b3, b4, b5, b6, b7, b8, b9, b10, b11, b12, b13, b14, b15, rfl⟩ := len16 (show ps.length = 16 from hgl)
    have HIZ := hid (row_inf (r := ((s6, [b0, b1, b2, b3, b4, b5, b6, b7, b8, b9, b10, b11, b12, b13, b14, b15], n), pr, lb)) rfl)
    generalize addrC six av = cs at BA CC HI HY2 ⊢
    clear hg hv HN HY hgl
    show Calls Tryd.prog 78 #[.agg cs.toArray] w fun e w' => e = .returned (.int .i64 pr) ∧ Ch [] w w'
    go_enter Tryd.func78, Tryd.ntmps78
    go_wp2_with (first
      | (refine wpList_loadB rfl 29 _ rfl w.heap.size 29 cs _ rfl BA Tryd.underlying29 rfl HI.out ?_)
      | (refine wpList_storeB rfl 75 _ _ rfl wn.heap.size 75 (rowC ((false, zeros, 0), 0, 0)) (rowC ((s6, [b0, b1, b2, b3, b4, b5, b6, b7, b8, b9, b10, b11, b12, b13, b14, b15], n), pr, lb)) rfl rfl (Blk.new _ _ _) HIZ.out rfl (row_one _) ?_; intro w3 B3 C3 Z3; clear Z3; replace CC := (CC.alloc _).step C3 (fun i hi => .inr (by simp at hi; have := CC.size; omega)); have cx : w3.cell? ⟨wn.heap.size, 18, none⟩ = some (.int .i64 pr) := B3.cell 18)
      | (go_at_call 93; (with_reducible refine (HY2.out _).mono ?_); rintro e wn ⟨rfl, Cn⟩; replace CC := CC.trans Cn))
    go_ret
    exact ⟨rfl, CC⟩

set_option maxRecDepth 20000 in
set_option maxHeartbeats 4000000 in
theorem refLab (six : Bool) (av : List Int) (hg : GoodA av) (w : World) : Calls Tryd.prog 79 #[.agg (addrC six av).toArray] w fun e w' => e = .returned (.int .i64 (lookP six av).2.2) ∧ Ch [] w w' := by
  have BA : Blk (w.alloc (.cells (addrC six av).toArray 29)) w.heap.size 29 (addrC six av) := Blk.new w _ _
  have CC : Ch [] w (w.alloc (.cells (addrC six av).toArray 29)) := (Ch.refl _ _).alloc _
  have HI := hid (addr_inf (six := six) hg.1)
  have HN := hid (fun hv => refRowNo six av hg hv)
  have HY := hid (fun hv => refRowYes six av hg hv)
  rw [look_same hg.1 hg.2]
  cases hv : validA six av with
  | false =>
    rw [if_neg (by decide)]
    have HN2 := hid (HN.out hv)
    have HIZ := hid (row_inf (r := ((false, zeros, 0), 0, 0)) rfl)
    generalize addrC six av = cs at BA CC HI HN2 ⊢
    clear hg hv HN HY
    go_enter Tryd.func79, Tryd.ntmps79
    go_wp2_with (first
      | (refine wpList_loadB rfl 29 _ rfl w.heap.size 29 cs _ rfl BA Tryd.underlying29 rfl HI.out ?_)
      | (refine wpList_storeB rfl 75 _ _ rfl wn.heap.size 75 (rowC ((false, zeros, 0), 0, 0)) (rowC ((false, zeros, 0), 0, 0)) rfl rfl (Blk.new _ _ _) HIZ.out rfl (row_one _) ?_; intro w3 B3 C3 Z3; clear Z3; replace CC := (CC.alloc _).step C3 (fun i hi => .inr (by simp at hi; have := CC.size; omega)))
      | (go_at_call 93; (with_reducible refine (HN2.out _).mono ?_); rintro e wn ⟨rfl, Cn⟩; replace CC := CC.trans Cn))
    go_ret
    exact ⟨rfl, CC⟩
  | true =>
    rw [if_pos rfl]
    have HY2 := hid (HY.out hv)
    have hgl : GoodR (lookR six av) := (pol_good _ (look_mem six av)).2.1
    generalize lookR six av = r at HY2 hgl ⊢
    obtain ⟨⟨s6, ps, n⟩, pr, lb⟩ := r
    obtain ⟨b0, b1, b2, b3, b4, b5, b6, b7, b8, b9, b10, b11, b12, b13, b14, b15, rfl⟩ := len16 (show ps.length = 16 from hgl)
    have HIZ := hid (row_inf (r := ((s6, [b0, b1, b2, b3, b4, b5, b6, b7, b8, b9, b10, b11, b12, b13, b14, b15], n), pr, lb)) rfl)
    generalize addrC six av = cs at BA CC HI HY2 ⊢
    clear hg hv HN HY hgl
    show Calls Tryd.prog 79 #[.agg cs.toArray] w fun e w' => e = .returned (.int .i64 lb) ∧ Ch [] w w'
    go_enter Tryd.func79, Tryd.ntmps79
    go_wp2_with (first
      | (refine wpList_loadB rfl 29 _ rfl w.heap.size 29 cs _ rfl BA Tryd.underlying29 rfl HI.out ?_)
      | (refine wpList_storeB rfl 75 _ _ rfl wn.heap.size 75 (rowC ((false, zeros, 0), 0, 0)) (rowC ((s6, [b0, b1, b2, b3, b4, b5, b6, b7, b8, b9, b10, b11, b12, b13, b14, b15], n), pr, lb)) rfl rfl (Blk.new _ _ _) HIZ.out rfl (row_one _) ?_; intro w3 B3 C3 Z3; clear Z3; replace CC := (CC.alloc _).step C3 (fun i hi => .inr (by simp at hi; have := CC.size; omega)); have cx : w3.cell? ⟨wn.heap.size, 19, none⟩ = some (.int .i64 lb) := B3.cell 19)
      | (go_at_call 93; (with_reducible refine (HY2.out _).mono ?_); rintro e wn ⟨rfl, Cn⟩; replace CC := CC.trans Cn))
    go_ret
    exact ⟨rfl, CC⟩
end Go.Proofs.YtjabeabbaambcaaDoor
