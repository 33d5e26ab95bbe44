/- policytable.lookup, Precedence, Label. -/
import Derived.Test.YtjabeabbaambcaaDoorPolW1
import Derived.Test.YtjabeabbaambcaaDoorLists
import Derived.Test.YtjabeabbaambcaaDoorPfxI
namespace Go.Proofs.YtjabeabbaambcaaDoor
open Go.RowKit

def GoodR (r : PRow) : Prop := r.1.2.1.length = 16
theorem polT_at (k : Nat) (hk : k < 9) : ∃ r, polT[k]? = some r ∧ GoodA r.1.2.1 :=
  ⟨polT[k]'hk, List.getElem?_eq_getElem hk, (pol_good _ (List.getElem_mem hk)).2⟩
theorem fold_good (m : List Int) (r0 : PRow) (h0 : GoodR r0) (k : Nat) : GoodR ((polT.take k).foldl (polS m) r0) := by
  rcases fold_mem m (polT.take k) r0 with h | h
  · rw [h]; exact h0
  · exact (pol_good _ (List.mem_of_mem_take h)).2.1
theorem fold_next {m : List Int} {r0 r : PRow} {k : Nat} (h : polT[k]? = some r) : (polT.take (k + 1)).foldl (polS m) r0 = polS m ((polT.take k).foldl (polS m) r0) r := by
  rw [take_one h, List.foldl_append]; rfl
theorem row_bits {r : PRow} (h : GoodR r) : (rowC r)[17]? = some (.int .i64 r.1.2.2) := by
  unfold rowC
  rw [List.getElem?_append_left (by rw [pfx_len h]; omega)]
  exact pfx_bits h
theorem row_pfx {r : PRow} {j : Nat} {v : Value} (hj : (pfxC r.1)[j]? = some v) : (rowC r)[0 + j]? = some v := by
  unfold rowC
  rw [Nat.zero_add, List.getElem?_append_left (List.getElem?_eq_some_iff.1 hj).1]
  exact hj
theorem row_prec {r : PRow} (h : GoodR r) : (rowC r)[18]? = some (.int .i64 r.2.1) := by
  unfold rowC
  rw [List.getElem?_append_right (by rw [pfx_len h]; omega), pfx_len h]; rfl
theorem row_lab {r : PRow} (h : GoodR r) : (rowC r)[19]? = some (.int .i64 r.2.2) := by
  unfold rowC
  rw [List.getElem?_append_right (by rw [pfx_len h]; omega), pfx_len h]; rfl
theorem pol_len20' : ∀ r ∈ polT, (rowC r).length = 20 := fun r hr => row_len (pol_good r hr).2.1
theorem own_rows20 {w : World} {B g c : Nat} {e : TypeId} (own : Own w B e 20 (some ⟨g, 0, none⟩) 9 c (polT.flatMap rowC)) (k : Nat) (r : PRow) (hr : polT[k]? = some r) : w.rangeAt g (k * 20) (rowC r) := by
  intro j v hv
  obtain ⟨b, off, he, hb, hc⟩ := own.rd.2 (by decide)
  simp only [Option.some.injEq, Addr.mk.injEq] at he
  obtain ⟨rfl, rfl, _⟩ := he
  have := hc _ v (flat_get (f := rowC) (size := 20) polT pol_len20' k r hr j v hv)
  rwa [Nat.zero_add] at this

set_option maxRecDepth 20000 in
set_option maxHeartbeats 8000000 in
theorem polLook (six : Bool) (av : List Int) (hg : GoodA av) (w : World) : Calls Tryd.prog 80 #[.agg (addrC six av).toArray] w fun e w' => e = .returned (.agg (rowC (lookP six av)).toArray) ∧ Ch [] w w' := by
  have BA : Blk ((w.alloc (.cells (addrC six av).toArray 29)).alloc (.cells #[.bool false, .int .u8 0, .int .u8 0, .int .u8 0, .int .u8 0, .int .u8 0, .int .u8 0, .int .u8 0, .int .u8 0, .int .u8 0, .int .u8 0, .int .u8 0, .int .u8 0, .int .u8 0, .int .u8 0, .int .u8 0, .int .u8 0, .int .i64 0, .int .i64 0, .int .i64 0] 75)) w.heap.size 29 (addrC six av) := (Blk.new w _ _).alloc _
  have B1 : Blk ((w.alloc (.cells (addrC six av).toArray 29)).alloc (.cells #[.bool false, .int .u8 0, .int .u8 0, .int .u8 0, .int .u8 0, .int .u8 0, .int .u8 0, .int .u8 0, .int .u8 0, .int .u8 0, .int .u8 0, .int .u8 0, .int .u8 0, .int .u8 0, .int .u8 0, .int .u8 0, .int .u8 0, .int .i64 0, .int .i64 0, .int .i64 0] 75)) (w.heap.size + 1) 75 (rowC ((false, zeros, 0), 0, 0)) := Blk.newAt _ 75 (rowC ((false, zeros, 0), 0, 0)) (by simp)
  have CC : Ch [] w ((w.alloc (.cells (addrC six av).toArray 29)).alloc (.cells #[.bool false, .int .u8 0, .int .u8 0, .int .u8 0, .int .u8 0, .int .u8 0, .int .u8 0, .int .u8 0, .int .u8 0, .int .u8 0, .int .u8 0, .int .u8 0, .int .u8 0, .int .u8 0, .int .u8 0, .int .u8 0, .int .u8 0, .int .i64 0, .int .i64 0, .int .i64 0] 75)) := ((Ch.refl _ _).alloc _).alloc _
  have HI := hid (addr_inf (six := six) hg.1)
  have hm := map6_good (six := six) hg.1 hg.2
  have HV := hid (ipValid six av hg.1 hg.2)
  have HT := hid (toSix six av hg)
  have HR0 := hid (row_inf (r := row0) rfl)
  unfold lookP
  have HLA : Hid ((addrC six av).length = 17) := addr_len hg.1
  obtain ⟨m, hmm⟩ : ∃ m, map6 six av = m := ⟨_, rfl⟩
  rw [hmm] at HT hm ⊢
  have hgm : GoodA m := hm
  have HIM := hid (addr_inf (six := true) hgm.1)
  have HLM : Hid ((addrC true m).length = 17) := addr_len hgm.1
  generalize addrC six av = cs at BA B1 CC HI HV HT HLA ⊢
  clear hmm hg hm
  cases hv : validA six av with
  | false =>
    rw [hv] at HV
    rw [if_neg (by decide)]
    go_enter Tryd.func80, Tryd.ntmps80
    go_wp2_with (first
      | go_skip
      | (refine wpList_storeB rfl 75 _ _ rfl (w.heap.size + 2) 75 (rowC ((false, zeros, 0), 0, 0)) (rowC row0) rfl rfl (Blk.newAt _ _ _ (by simp)) HR0.out rfl (row_one _) ?_; intro w2 B2 C2 Z2; clear Z2; replace BA := (BA.alloc _).ch C2 (by simp); replace B1 := (B1.alloc _).ch C2 (by simp); replace CC := (CC.alloc _).step C2 (fun i hi => .inr (by simp at hi; omega)); clear C2)
      | (refine wpList_loadB rfl 29 _ rfl w.heap.size 29 cs _ rfl BA Tryd.underlying29 rfl HI.out ?_)
      | (refine wpList_loadB rfl 75 _ rfl (w.heap.size + 2) 75 (rowC row0) _ rfl B2 Tryd.underlying75 rfl HR0.out ?_)
      | (refine wpList_storeB rfl 75 _ _ rfl (w.heap.size + 1) 75 (rowC ((false, zeros, 0), 0, 0)) (rowC row0) rfl rfl B1 HR0.out rfl (row_one _) ?_; intro w5 B5 C5 Z5)
      | (go_at_call 58; (with_reducible refine (HV.out _).mono ?_); rintro e wn ⟨rfl, Cn⟩; replace BA := BA.ch Cn (by simp); replace B1 := B1.ch Cn (by simp); replace B2 := B2.ch Cn (by simp); replace CC := CC.trans Cn; clear Cn))
    try simp only [Exit.inBlock, Exit.then]
    refine bodyPost_ret (results_row1 rfl _ _ rfl B5 Tryd.underlying75 rfl HR0.out) rfl ?_
    exact ⟨rfl, CC.step C5 (fun i hi => .inr (by simp at hi; omega))⟩
  | true =>
    rw [hv] at HV
    rw [if_pos rfl]
    go_enter Tryd.func80, Tryd.ntmps80
    go_wp2_with (first
      | go_skip
      | (refine wpList_storeB rfl 75 _ _ rfl (w.heap.size + 2) 75 (rowC ((false, zeros, 0), 0, 0)) (rowC row0) rfl rfl (Blk.newAt _ _ _ (by simp)) HR0.out rfl (row_one _) ?_; intro w2 B2 C2 Z2; clear Z2; replace BA := (BA.alloc _).ch C2 (by simp); replace B1 := (B1.alloc _).ch C2 (by simp); replace CC := (CC.alloc _).step C2 (fun i hi => .inr (by simp at hi; omega)); clear C2)
      | (refine wpList_loadB rfl 29 _ rfl w.heap.size 29 cs _ rfl BA Tryd.underlying29 rfl HI.out ?_)
      | (refine wpList_storeB rfl 29 _ _ rfl w.heap.size 29 cs (addrC true m) rfl rfl BA HIM.out (HLA.out.trans HLM.out.symm) (addr_one' _ _) ?_; intro w3 BM C3 Z3; clear Z3; replace B1 := B1.ch C3 (by simp); replace B2 := B2.ch C3 (by simp); replace CC := CC.step C3 (fun i hi => .inr (by simp at hi; omega)); clear BA C3)
      | (go_at_call 58; (with_reducible refine (HV.out _).mono ?_); rintro e wn ⟨rfl, Cn⟩; replace BA := BA.ch Cn (by simp); replace B1 := B1.ch Cn (by simp); replace B2 := B2.ch Cn (by simp); replace CC := CC.trans Cn; clear Cn)
      | (go_at_call 94; (with_reducible refine (HT.out _).mono ?_); rintro e wn ⟨rfl, Cn⟩; replace BA := BA.ch Cn (by simp); replace B1 := B1.ch Cn (by simp); replace B2 := B2.ch Cn (by simp); replace CC := CC.trans Cn; clear Cn)
      | (go_at_call 55; (with_reducible refine (rowList _).mono ?_); rintro e w4 ⟨T, rfl, own, Cn⟩; replace BM := BM.ch Cn (by simp); have lt3 := B2.lt; replace B1 := B1.ch Cn (by simp); replace B2 := B2.ch Cn (by simp); replace CC := CC.trans Cn; clear Cn))
    obtain ⟨g, rfl, hg0, hg1⟩ := own.form (by decide)
    have HROW := hid (own_rows20 own)
    clear own
    go_loopw [16] (fun i wr => ∃ k : Nat, k ≤ 9 ∧ i = .int .i64 k ∧ Blk wr w.heap.size 29 (addrC true m) ∧ Blk wr (w.heap.size + 1) 75 (rowC ((false, zeros, 0), 0, 0)) ∧ Blk wr (w.heap.size + 2) 75 (rowC ((polT.take k).foldl (polS m) row0)) ∧ Ch [w.heap.size + 2] w4 wr ∧ Ch [] w wr) (fun i _ => 9 - (intOf i).toNat)
    case atStart => exact ⟨0, by omega, rfl, BM, B1, B2, Ch.refl _ _, CC⟩
    case round =>
      clear BM B1 B2 CC
      obtain ⟨k, hk, rfl, BM, B1, B2, CT, CC⟩ := hrel
      have lt2 := B2.lt
      have hgb := fold_good m row0 rfl k
      by_cases hlt : k < 9
      · obtain ⟨r, hr, hgr⟩ := polT_at k hlt
        have HN := hid (fold_next (m := m) (r0 := row0) hr)
        have HRR : Hid (wr.rangeAt g (k * 20) (rowC r)) := range_ch (HROW.out k r hr) CT hg1 (by simp; omega)
        have HIR := hid (row_inf (r := r) hgr.1)
        have HIP := hid (pfx_inf (p := r.1) hgr.1)
        have HLR : Hid ((rowC r).length = 20) := row_len hgr.1
        have HR17 : Hid ((rowC r)[17]? = some (.int .i64 r.1.2.2)) := row_bits hgr.1
        have HRP : Hid (∀ j v, (pfxC r.1)[j]? = some v → (rowC r)[0 + j]? = some v) := fun j v hj => row_pfx hj
        have HC : Hid (∀ w, Calls Tryd.prog 69 #[.agg (pfxC r.1).toArray, .agg (addrC true m).toArray] w fun e w' => e = .returned (.bool (contP r.1 true m)) ∧ Ch [] w w') := contPfx r.1.1 r.1.2.1 r.1.2.2 hgr true m hgm
        have HN1 := hid hgr.1
        clear hr hgr
        generalize hbb : (polT.take k).foldl (polS m) row0 = b at B2 HN hgb
        have HB17 : Hid ((rowC b)[17]? = some (.int .i64 b.1.2.2)) := row_bits hgb
        have HLB : Hid ((rowC b).length = 20) := row_len hgb
        have c17 : wr.cell? ⟨w.heap.size + 2, 17, none⟩ = some (.int .i64 b.1.2.2) := (B2.cell 17).trans HB17.out
        have hk0 : (0 : Int) ≤ k := by omega
        have hk9 : (k : Int) < 9 := by omega
        have hPS : Hid (polS m b r = if decide (b.1.2.2 < r.1.2.2) && contP r.1 true m then r else b) := by show _ = _; rfl
        clear hbb hgb
        obtain ⟨nb, hnb⟩ : ∃ nb, b.1.2.2 = nb := ⟨_, rfl⟩
        obtain ⟨nr, hnr⟩ : ∃ nr, r.1.2.2 = nr := ⟨_, rfl⟩
        obtain ⟨V, hV⟩ : ∃ V, contP r.1 true m = V := ⟨_, rfl⟩
        rw [hnb, hnr, hV] at hPS
        rw [hnb] at HB17 c17
        rw [hnr] at HR17
        rw [hV] at HC
        clear hnb hnr hV
        by_cases hgt : nb < nr
        · have d1 : decide (nb < nr) = true := by simpa using hgt
          rw [d1] at hPS
          cases V with
          | true =>
            have HE : Hid ((polT.take (k + 1)).foldl (polS m) row0 = r) := by show _ = _; rw [HN.out, hPS.out]; rfl
            go_wp2_with (first
              | go_skip
              | (refine wpList_load_want rfl 75 _ rfl g (k * 20) rfl (rowC r) _ HRR.out Tryd.underlying75 rfl HIR.out ?_)
              | (refine wpList_storeB rfl 75 _ _ rfl wr.heap.size 75 (rowC ((false, zeros, 0), 0, 0)) (rowC r) rfl rfl (Blk.new _ _ _) HIR.out (by rw [HLR.out]; rfl) (row_one _) ?_; intro w3 B3 C3 Z3; clear Z3; have BM4 := (BM.alloc _).ch C3 (by simp; omega); have B14 := (B1.alloc _).ch C3 (by simp; omega); have B24 := (B2.alloc _).ch C3 (by simp; omega); have CT4 := (CT.alloc _).step C3 (fun i hi => .inr (by simp at hi; have := CT.size; omega)); have CC4 := (CC.alloc _).step C3 (fun i hi => .inr (by simp at hi; have := CC.size; omega)); have e17 : w3.cell? ⟨wr.heap.size, 17, none⟩ = some (.int .i64 nr) := (B3.cell 17).trans HR17.out; have f17 : w3.cell? ⟨w.heap.size + 2, 17, none⟩ = some (.int .i64 nb) := (B24.cell 17).trans HB17.out)
              | (refine wpList_load_want rfl 49 _ rfl wr.heap.size 0 rfl (pfxC r.1) _ (B3.rangeMid 0 _ HRP.out) Tryd.underlying49 rfl HIP.out ?_)
              | (refine wpList_load_want rfl 29 _ rfl w.heap.size 0 rfl (addrC true m) _ BM4.range Tryd.underlying29 rfl HIM.out ?_)
              | (go_at_call 69; (with_reducible refine (HC.out _).mono ?_); rintro e wn ⟨rfl, Cn⟩; have BM5 := BM4.ch Cn (by simp); have B15 := B14.ch Cn (by simp); have B25 := B24.ch Cn (by simp); have B35 := B3.ch Cn (by simp); have CC5 := CC4.trans Cn; have CT5 := CT4.step Cn (fun i hi => by simp at hi))
              | (refine wpList_loadB rfl 75 _ rfl wr.heap.size 75 (rowC r) _ rfl B35 Tryd.underlying75 rfl HIR.out ?_)
              | (refine wpList_storeB rfl 75 _ _ rfl (w.heap.size + 2) 75 (rowC b) (rowC r) rfl rfl B25 HIR.out (by rw [HLB.out, HLR.out]) (row_one _) ?_; intro w6 B26 C6 Z6; clear Z6; have BM6 := BM5.ch C6 (by simp); have B16 := B15.ch C6 (by simp); have CT6 := CT5.step C6 (fun i hi => .inl hi); have CC6 := CC5.step C6 (fun i hi => .inr (by simp at hi; omega))))
            go_roundw
            case rel => exact ⟨k + 1, by omega, by go_num, BM6, B16, by rw [HE.out]; exact B26, CT6, CC6⟩
            case measure => simp [intOf]; omega
          | false =>
            have HE : Hid ((polT.take (k + 1)).foldl (polS m) row0 = b) := by show _ = _; rw [HN.out, hPS.out]; rfl
            go_wp2_with (first
              | go_skip
              | (refine wpList_load_want rfl 75 _ rfl g (k * 20) rfl (rowC r) _ HRR.out Tryd.underlying75 rfl HIR.out ?_)
              | (refine wpList_storeB rfl 75 _ _ rfl wr.heap.size 75 (rowC ((false, zeros, 0), 0, 0)) (rowC r) rfl rfl (Blk.new _ _ _) HIR.out (by rw [HLR.out]; rfl) (row_one _) ?_; intro w3 B3 C3 Z3; clear Z3; have BM4 := (BM.alloc _).ch C3 (by simp; omega); have B14 := (B1.alloc _).ch C3 (by simp; omega); have B24 := (B2.alloc _).ch C3 (by simp; omega); have CT4 := (CT.alloc _).step C3 (fun i hi => .inr (by simp at hi; have := CT.size; omega)); have CC4 := (CC.alloc _).step C3 (fun i hi => .inr (by simp at hi; have := CC.size; omega)); have e17 : w3.cell? ⟨wr.heap.size, 17, none⟩ = some (.int .i64 nr) := (B3.cell 17).trans HR17.out; have f17 : w3.cell? ⟨w.heap.size + 2, 17, none⟩ = some (.int .i64 nb) := (B24.cell 17).trans HB17.out)
              | (refine wpList_load_want rfl 49 _ rfl wr.heap.size 0 rfl (pfxC r.1) _ (B3.rangeMid 0 _ HRP.out) Tryd.underlying49 rfl HIP.out ?_)
              | (refine wpList_load_want rfl 29 _ rfl w.heap.size 0 rfl (addrC true m) _ BM4.range Tryd.underlying29 rfl HIM.out ?_)
              | (go_at_call 69; (with_reducible refine (HC.out _).mono ?_); rintro e wn ⟨rfl, Cn⟩; have BM5 := BM4.ch Cn (by simp); have B15 := B14.ch Cn (by simp); have B25 := B24.ch Cn (by simp); have B35 := B3.ch Cn (by simp); have CC5 := CC4.trans Cn; have CT5 := CT4.step Cn (fun i hi => by simp at hi)))
            go_roundw
            case rel => exact ⟨k + 1, by omega, by go_num, BM5, B15, by rw [HE.out]; exact B25, CT5, CC5⟩
            case measure => simp [intOf]; omega
        · have d1 : decide (nb < nr) = false := by simpa using hgt
          rw [d1] at hPS
          have HE : Hid ((polT.take (k + 1)).foldl (polS m) row0 = b) := by show _ = _; rw [HN.out, hPS.out]; rfl
          go_wp2_with (first
            | go_skip
            | (refine wpList_load_want rfl 75 _ rfl g (k * 20) rfl (rowC r) _ HRR.out Tryd.underlying75 rfl HIR.out ?_)
            | (refine wpList_storeB rfl 75 _ _ rfl wr.heap.size 75 (rowC ((false, zeros, 0), 0, 0)) (rowC r) rfl rfl (Blk.new _ _ _) HIR.out (by rw [HLR.out]; rfl) (row_one _) ?_; intro w3 B3 C3 Z3; clear Z3; have BM4 := (BM.alloc _).ch C3 (by simp; omega); have B14 := (B1.alloc _).ch C3 (by simp; omega); have B24 := (B2.alloc _).ch C3 (by simp; omega); have CT4 := (CT.alloc _).step C3 (fun i hi => .inr (by simp at hi; have := CT.size; omega)); have CC4 := (CC.alloc _).step C3 (fun i hi => .inr (by simp at hi; have := CC.size; omega)); have e17 : w3.cell? ⟨wr.heap.size, 17, none⟩ = some (.int .i64 nr) := (B3.cell 17).trans HR17.out; have f17 : w3.cell? ⟨w.heap.size + 2, 17, none⟩ = some (.int .i64 nb) := (B24.cell 17).trans HB17.out))
          go_roundw
          case rel => exact ⟨k + 1, by omega, by go_num, BM4, B14, by rw [HE.out]; exact B24, CT4, CC4⟩
          case measure => simp [intOf]; omega
      · obtain rfl : k = 9 := by omega
        rw [List.take_of_length_le (by rw [pol_len]; omega)] at B2 hgb
        generalize hbb : polT.foldl (polS m) row0 = b at B2 hgb ⊢
        have HIB := hid (row_inf (r := b) hgb)
        have HLB : Hid ((rowC b).length = 20) := row_len hgb
        have HBB := hid hbb
        clear hbb
        go_wp2_with (first
          | (refine wpList_loadB rfl 75 _ rfl (w.heap.size + 2) 75 (rowC b) _ rfl B2 Tryd.underlying75 rfl HIB.out ?_)
          | (refine wpList_storeB rfl 75 _ _ rfl (w.heap.size + 1) 75 (rowC ((false, zeros, 0), 0, 0)) (rowC b) rfl rfl B1 HIB.out (by rw [HLB.out]; rfl) (row_one _) ?_; intro w5 B5 C5 Z5))
        try simp only [Exit.inBlock, Exit.then]
        refine bodyPost_ret (results_row1 rfl _ _ rfl B5 Tryd.underlying75 rfl HIB.out) rfl ?_
        exact ⟨by rw [HBB.out], CC.step C5 (fun i hi => .inr (by simp at hi; omega))⟩

set_option maxRecDepth 20000 in
theorem polPrec (six : Bool) (av : List Int) (hg : GoodA av) (w : World) : Calls Tryd.prog 50 #[.agg (addrC six av).toArray] w fun e w' => e = .returned (.int .i64 (lookP six av).2.1) ∧ Ch [] w w' := by
  have BA : Blk (w.alloc (.cells (addrC six av).toArray 29)) w.heap.size 29 (addrC six av) := Blk.new w _ _
  have CC : Ch [] w (w.alloc (.cells (addrC six av).toArray 29)) := (Ch.refl _ _).alloc _
  have HI := hid (addr_inf (six := six) hg.1)
  have HL := hid (polLook six av hg)
  have hgl : GoodR (lookP six av) := by
    unfold lookP
    split
    · have := fold_good (map6 six av) row0 rfl 9
      rwa [List.take_of_length_le (by rw [pol_len]; omega)] at this
    · rfl
  generalize lookP six av = r at HL hgl ⊢
  obtain ⟨⟨s6, ps, n⟩, pr, lb⟩ := r
  obtain ⟨b0, b1, b2, b3, b4, b5, b6, b7, b8, b9, b10, b11, b12, b13, b14, b15, rfl⟩ := len16 (show ps.length = 16 from hgl)
  generalize addrC six av = cs at BA CC HI HL ⊢
  clear hg hgl
  have HL2 : Hid (∀ w, Calls Tryd.prog 80 #[.agg cs.toArray] w fun e w' => e = .returned (.agg #[.bool s6, .int .u8 b0, .int .u8 b1, .int .u8 b2, .int .u8 b3, .int .u8 b4, .int .u8 b5, .int .u8 b6, .int .u8 b7, .int .u8 b8, .int .u8 b9, .int .u8 b10, .int .u8 b11, .int .u8 b12, .int .u8 b13, .int .u8 b14, .int .u8 b15, .int .i64 n, .int .i64 pr, .int .i64 lb]) ∧ Ch [] w w') := HL
  have hf : ∀ w, (Instr.field 75 (.agg #[.bool s6, .int .u8 b0, .int .u8 b1, .int .u8 b2, .int .u8 b3, .int .u8 b4, .int .u8 b5, .int .u8 b6, .int .u8 b7, .int .u8 b8, .int .u8 b9, .int .u8 b10, .int .u8 b11, .int .u8 b12, .int .u8 b13, .int .u8 b14, .int .u8 b15, .int .i64 n, .int .i64 pr, .int .i64 lb]) 1).run Tryd.prog w = .ok (.int .i64 pr) w := fun _ => by kernel_rfl
  show Calls Tryd.prog 50 #[.agg cs.toArray] w fun e w' => e = .returned (.int .i64 pr) ∧ Ch [] w w'
  go_enter Tryd.func50, Tryd.ntmps50
  go_wp2_with (first
    | (refine wpList_loadB rfl 29 _ rfl w.heap.size 29 cs _ rfl BA Tryd.underlying29 rfl HI.out ?_)
    | (go_at_call 80; (with_reducible refine (HL2.out _).mono ?_); rintro e wn ⟨rfl, Cn⟩))
  go_ret
  exact ⟨rfl, CC.trans Cn⟩

set_option maxRecDepth 20000 in
theorem polLab (six : Bool) (av : List Int) (hg : GoodA av) (w : World) : Calls Tryd.prog 51 #[.agg (addrC six av).toArray] w fun e w' => e = .returned (.int .i64 (lookP six av).2.2) ∧ Ch [] w w' := by
  have BA : Blk (w.alloc (.cells (addrC six av).toArray 29)) w.heap.size 29 (addrC six av) := Blk.new w _ _
  have CC : Ch [] w (w.alloc (.cells (addrC six av).toArray 29)) := (Ch.refl _ _).alloc _
  have HI := hid (addr_inf (six := six) hg.1)
  have HL := hid (polLook six av hg)
  have hgl : GoodR (lookP six av) := by
    unfold lookP
    split
    · have := fold_good (map6 six av) row0 rfl 9
      rwa [List.take_of_length_le (by rw [pol_len]; omega)] at this
    · rfl
  generalize lookP six av = r at HL hgl ⊢
  obtain ⟨⟨s6, ps, n⟩, pr, lb⟩ := r
  obtain ⟨b0, b1, b2, b3, b4, b5, b6, b7, b8, b9, b10, b11, b12, b13, b14, b15, rfl⟩ := len16 (show ps.length = 16 from hgl)
  generalize addrC six av = cs at BA CC HI HL ⊢
  clear hg hgl
  have HL2 : Hid (∀ w, Calls Tryd.prog 80 #[.agg cs.toArray] w fun e w' => e = .returned (.agg #[.bool s6, .int .u8 b0, .int .u8 b1, .int .u8 b2, .int .u8 b3, .int .u8 b4, .int .u8 b5, .int .u8 b6, .int .u8 b7, .int .u8 b8, .int .u8 b9, .int .u8 b10, .int .u8 b11, .int .u8 b12, .int .u8 b13, .int .u8 b14, .int .u8 b15, .int .i64 n, .int .i64 pr, .int .i64 lb]) ∧ Ch [] w w') := HL
  have hf : ∀ w, (Instr.field 75 (.agg #[.bool s6, .int .u8 b0, .int .u8 b1, .int .u8 b2, .int .u8 b3, .int .u8 b4, .int .u8 b5, .int .u8 b6, .int .u8 b7, .int .u8 b8, .int .u8 b9, .int .u8 b10, .int .u8 b11, .int .u8 b12, .int .u8 b13, .int .u8 b14, .int .u8 b15, .int .i64 n, .int .i64 pr, .int .i64 lb]) 2).run Tryd.prog w = .ok (.int .i64 lb) w := fun _ => by kernel_rfl
  show Calls Tryd.prog 51 #[.agg cs.toArray] w fun e w' => e = .returned (.int .i64 lb) ∧ Ch [] w w'
  go_enter Tryd.func51, Tryd.ntmps51
  go_wp2_with (first
    | (refine wpList_loadB rfl 29 _ rfl w.heap.size 29 cs _ rfl BA Tryd.underlying29 rfl HI.out ?_)
    | (go_at_call 80; (with_reducible refine (HL2.out _).mono ?_); rintro e wn ⟨rfl, Cn⟩))
  go_ret
  exact ⟨rfl, CC.trans Cn⟩
end Go.Proofs.YtjabeabbaambcaaDoor
