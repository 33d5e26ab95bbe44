/- What relay.Transfer computes (printed by mk_relay2.py). -/
import Derived.Test.YtlgbijakljohlaaRelay
namespace Go.Proofs.Ytlgbijakljohlaa
open Go.RowKit

theorem PD.trs_cases (up : Bool) (x : PD) (s : ByteArray) (hs : strOfNums (x.xs.take x.n) = s) (e : Bool) (he : x.e = e) (ts : List (Bool × ByteArray × Bool)) (ht : x.trs up = ts) :
    (s = ⟨#[]⟩ ∧ e = false ∧ ts = []) ∨ (s = ⟨#[]⟩ ∧ e = true ∧ ts = [(up, ⟨#[]⟩, true)]) ∨ (s.toList.isEmpty = false ∧ ts = [(up, s, e)]) := by
  subst hs he ht
  unfold PD.trs
  by_cases hn : x.n = 0
  · rw [hn]
    cases he : x.e
    · exact .inl ⟨rfl, rfl, by simp⟩
    · exact .inr (.inl ⟨rfl, rfl, by simp; rfl⟩)
  · refine .inr (.inr ⟨?_, by simp [hn]⟩)
    have hl : (x.xs.take x.n).length = x.n := by rw [List.length_take]; unfold PD.n; omega
    rw [ByteArray.toList_eq]
    cases hx : x.xs.take x.n with
    | nil => rw [hx] at hl; simp at hl; omega
    | cons a l => simp [strOfNums]

section
variable (w : World) (q c : Nat) (B1 B2 : PB) (x y : PD) (h : relayAt w q c B1 B2 x y)
include h
set_option maxHeartbeats 4000000 in
theorem relayTransfer (both : Bool) (x1 : PD) (hx1 : x.rd = x1) (y2 : PD) (hy2 : (if both then y.rd else y) = y2) (ts : List (Bool × ByteArray × Bool)) (hts : x.trs false ++ (if both then y.trs true else []) = ts) :
    Calls Try.prog 16 #[.pointer (some ⟨q, 0, none⟩), .bool both] w fun e w' => ∃ A k cc, e = .returned (.slice A k cc) ∧ Own w' w.heap.size 45 3 A k cc (trsCells ts) ∧ k ≤ 2 ∧ relayAt w' q c B1 B2 x1 y2 ∧ Ch [B1.p, B1.g, B1.b, B2.p, B2.g, B2.b] w w' := by
  have c0 : ∀ w', relayAt w' q c B1 B2 x y → w'.cell? ⟨q, 0, none⟩ = some (.pointer (some ⟨B1.p, 0, none⟩)) := fun w' h => h.blk.cell 0
  have hl0 := h.blk.lt
  have hl1 := h.dn.lt
  have hl2 := h.up.lt
  have hsp := h.sep
  unfold relSep at hsp
  obtain ⟨n, hn⟩ : ∃ n, (if both then 2 else 1) = n := ⟨_, rfl⟩
  have HN := hid hn
  have hn2 : both = true ∧ (2 ≤ n ∧ n ≤ 2) ∨ both = false ∧ (1 ≤ n ∧ n ≤ 1) := by cases both <;> simp at hn <;> simp [← hn]
  obtain ⟨y1, hy1⟩ : ∃ y1, y.rd = y1 := ⟨_, rfl⟩
  obtain ⟨ts1, ht1⟩ : ∃ z, x.trs false = z := ⟨_, rfl⟩
  obtain ⟨ts2, ht2⟩ : ∃ z, y.trs true = z := ⟨_, rfl⟩
  obtain ⟨s1, hs1⟩ : ∃ z, strOfNums (x.xs.take x.n) = z := ⟨_, rfl⟩
  obtain ⟨s2, hs2⟩ : ∃ z, strOfNums (y.xs.take y.n) = z := ⟨_, rfl⟩
  obtain ⟨e1, he1⟩ : ∃ z, x.e = z := ⟨_, rfl⟩
  obtain ⟨e2, he2⟩ : ∃ z, y.e = z := ⟨_, rfl⟩
  have hA := PD.trs_cases false x s1 hs1 e1 he1 ts1 ht1
  have hB := PD.trs_cases true y s2 hs2 e2 he2 ts2 ht2
  rw [ht1, ht2] at hts
  rw [hy1] at hy2
  have HX1 := hid hx1
  have HY1 := hid hy1
  have HS1 := hid hs1
  have HS2 := hid hs2
  have HE1 := hid he1
  have HE2 := hid he2
  have HTS0 := hid hts
  have HY2 := hid hy2
  clear hn hx1 hy1 hs1 hs2 he1 he2 hts hy2 ht1 ht2
  go_enter Try.func16, Try.ntmps16
  go_wp2_with (go_at_call 30; go_must ((with_reducible refine (relaySel _ q both n HN.out).mono ?_); rintro e w' ⟨rfl, rfl⟩))
  go_loopw [5, 14] (fun l i wr => ∃ (A : Option Addr) (k cc : Nat) (us : List (Bool × ByteArray × Bool)) (u v : PD), l = .slice A k cc ∧ Own wr w.heap.size 45 3 A k cc (trsCells us) ∧ relayAt wr q c B1 B2 u v ∧ Ch [B1.p, B1.g, B1.b, B2.p, B2.g, B2.b] w wr ∧
    (i = .int .i64 0 ∧ k ≤ 0 ∧ Hid (us = [] ∧ x = u ∧ y = v) ∨ i = .int .i64 1 ∧ k ≤ 1 ∧ Hid (ts1 = us ∧ x1 = u ∧ y = v) ∨ i = .int .i64 2 ∧ k ≤ 2 ∧ Hid (2 ≤ n ∧ us = ts1 ++ ts2 ∧ x1 = u ∧ y1 = v))) (fun _ i _ => 3 - (intOf i).toNat)
  case atStart => exact ⟨none, 0, 0, [], x, y, rfl, Own.nil _ _ _ _, h, Ch.refl _ _, .inl ⟨rfl, Nat.le_refl _, rfl, rfl, rfl⟩⟩
  case round =>
    obtain ⟨A, k, cc, us, u, v, rfl, own, HR, C, hi⟩ := hrel
    have hnb : ∀ S : List Nat, (∀ z ∈ S, z < w.heap.size) → ∀ g ∈ blkOf A, g ∉ S := fun S hS g hg hm => by have := own.blks g hg; have := hS g hm; omega
    have hz := C.size
    have d0 : wr.cell? ⟨q, 0, none⟩ = some (.pointer (some ⟨B1.p, 0, none⟩)) := HR.blk.cell 0
    have d1 : wr.cell? ⟨q, 1, none⟩ = some (.pointer (some ⟨B2.p, 0, none⟩)) := HR.blk.cell 1
    rcases hi with ⟨rfl, hk, HI⟩ | ⟨rfl, hk, HI⟩ | ⟨rfl, hk, HI⟩
    · obtain ⟨rfl, rfl, rfl⟩ := HI.out
      rcases hA with hc | hc | hc
      · skip
        obtain ⟨rfl, rfl, hts⟩ := hc
        have HTS := hid hts
        clear hts
        go_wp2_with (first
          | (go_at_call 31; go_must ((with_reducible refine (pRead _ B1 c x HR.dn _ HS1.out _ HE1.out _ HX1.out).mono ?_); rintro r w2 ⟨rfl, R2, C2⟩; have HQ := HR.dnCh C2 (by simp <;> omega) R2; have K2 := C2.size; have own2 := own.ch C2 (hnb _ (by simp <;> omega))))
        )
        go_roundw
        case rel => exact ⟨A, k, cc, _, _, _, rfl, own2, HQ, C.trans (C2.mono (by simp <;> omega)), .inr (.inl ⟨rfl, by omega, hid ⟨HTS.out, rfl, rfl⟩⟩)⟩
        case measure => simp [intOf]
      · skip
        obtain ⟨rfl, rfl, hts⟩ := hc
        have HTS := hid hts
        clear hts
        go_wp2_with (first
          | (go_at_call 31; go_must ((with_reducible refine (pRead _ B1 c x HR.dn _ HS1.out _ HE1.out _ HX1.out).mono ?_); rintro r w2 ⟨rfl, R2, C2⟩; have HQ := HR.dnCh C2 (by simp <;> omega) R2; have K2 := C2.size; have own2 := own.ch C2 (hnb _ (by simp <;> omega))))
          | (at_builtin; go_must (refine wpList_app _ rfl (.tmp 29) (.tmp 35) _ rfl w.heap.size 45 _ 3 32 Try.underlying46 tr_info rfl (by omega) _ _ _ _ rfl (own2.alloc _) _ _ _ _ (trsCells [(false, _, _)]) rfl (Rd.new _ 3 (trsCells [(false, _, _)]) 1 rfl _) (trs_one _) (by unfold maxLen; omega) (by omega) (by simp only [World.size_alloc]; omega) ?_; intro A3 c3 w3 own3 C3 hb3))
        )
        have C4 : Ch (blkOf A) w2 w3 := ((Ch.refl _ w2).alloc _).trans C3
        go_roundw
        case rel => exact ⟨A3, k + 1, c3, _, _, _, rfl, own3, HQ.ch C4 (fun z hz => by have := own.blks z hz; omega), (C.trans (C2.mono (by simp <;> omega))).step C4 (fun i hi => .inr (own.blks i hi).1), .inr (.inl ⟨rfl, by omega, hid ⟨HTS.out, rfl, rfl⟩⟩)⟩
        case measure => simp [intOf]
      · skip
        obtain ⟨hne, hts⟩ := hc
        have HTS := hid hts
        clear hts
        have hne2 : ¬ s1.toList = [] := by intro h0; rw [h0] at hne; simp at hne
        go_wp2_with (first
          | (go_at_call 31; go_must ((with_reducible refine (pRead _ B1 c x HR.dn _ HS1.out _ HE1.out _ HX1.out).mono ?_); rintro r w2 ⟨rfl, R2, C2⟩; have HQ := HR.dnCh C2 (by simp <;> omega) R2; have K2 := C2.size; have own2 := own.ch C2 (hnb _ (by simp <;> omega))))
          | (at_builtin; go_must (refine wpList_app _ rfl (.tmp 29) (.tmp 35) _ rfl w.heap.size 45 _ 3 32 Try.underlying46 tr_info rfl (by omega) _ _ _ _ rfl (own2.alloc _) _ _ _ _ (trsCells [(false, _, _)]) rfl (Rd.new _ 3 (trsCells [(false, _, _)]) 1 rfl _) (trs_one _) (by unfold maxLen; omega) (by omega) (by simp only [World.size_alloc]; omega) ?_; intro A3 c3 w3 own3 C3 hb3))
        )
        have C4 : Ch (blkOf A) w2 w3 := ((Ch.refl _ w2).alloc _).trans C3
        go_roundw
        case rel => exact ⟨A3, k + 1, c3, _, _, _, rfl, own3, HQ.ch C4 (fun z hz => by have := own.blks z hz; omega), (C.trans (C2.mono (by simp <;> omega))).step C4 (fun i hi => .inr (own.blks i hi).1), .inr (.inl ⟨rfl, by omega, hid ⟨HTS.out, rfl, rfl⟩⟩)⟩
        case measure => simp [intOf]
    · obtain ⟨rfl, rfl, rfl⟩ := HI.out
      rcases hn2 with ⟨rfl, hn, hn1⟩ | ⟨rfl, hn, hn1⟩
      · rcases hB with hc | hc | hc
        · skip
          obtain ⟨rfl, rfl, hts⟩ := hc
          have HTS := hid hts
          clear hts
          go_wp2_with (first
            | (go_at_call 31; go_must ((with_reducible refine (pRead _ B2 c y HR.up _ HS2.out _ HE2.out _ HY1.out).mono ?_); rintro r w2 ⟨rfl, R2, C2⟩; have HQ := HR.upCh C2 (by simp <;> omega) R2; have K2 := C2.size; have own2 := own.ch C2 (hnb _ (by simp <;> omega))))
          )
          go_roundw
          case rel => exact ⟨A, k, cc, ts1 ++ ts2, _, _, rfl, by rw [HTS.out, List.append_nil]; exact own2, HQ, C.trans (C2.mono (by simp <;> omega)), .inr (.inr ⟨rfl, by omega, hid ⟨hn, rfl, rfl, rfl⟩⟩)⟩
          case measure => simp [intOf]
        · skip
          obtain ⟨rfl, rfl, hts⟩ := hc
          have HTS := hid hts
          clear hts
          go_wp2_with (first
            | (go_at_call 31; go_must ((with_reducible refine (pRead _ B2 c y HR.up _ HS2.out _ HE2.out _ HY1.out).mono ?_); rintro r w2 ⟨rfl, R2, C2⟩; have HQ := HR.upCh C2 (by simp <;> omega) R2; have K2 := C2.size; have own2 := own.ch C2 (hnb _ (by simp <;> omega))))
            | (at_builtin; go_must (refine wpList_app _ rfl (.tmp 29) (.tmp 35) _ rfl w.heap.size 45 _ 3 32 Try.underlying46 tr_info rfl (by omega) _ _ _ _ rfl (own2.alloc _) _ _ _ _ (trsCells [(true, _, _)]) rfl (Rd.new _ 3 (trsCells [(true, _, _)]) 1 rfl _) (trs_one _) (by unfold maxLen; omega) (by omega) (by simp only [World.size_alloc]; omega) ?_; intro A3 c3 w3 own3 C3 hb3))
          )
          have C4 : Ch (blkOf A) w2 w3 := ((Ch.refl _ w2).alloc _).trans C3
          go_roundw
          case rel => exact ⟨A3, k + 1, c3, ts1 ++ ts2, _, _, rfl, by rw [HTS.out, trsCells_append]; exact own3, HQ.ch C4 (fun z hz => by have := own.blks z hz; omega), (C.trans (C2.mono (by simp <;> omega))).step C4 (fun i hi => .inr (own.blks i hi).1), .inr (.inr ⟨rfl, by omega, hid ⟨hn, rfl, rfl, rfl⟩⟩)⟩
          case measure => simp [intOf]
        · skip
          obtain ⟨hne, hts⟩ := hc
          have HTS := hid hts
          clear hts
          have hne2 : ¬ s2.toList = [] := by intro h0; rw [h0] at hne; simp at hne
          go_wp2_with (first
            | (go_at_call 31; go_must ((with_reducible refine (pRead _ B2 c y HR.up _ HS2.out _ HE2.out _ HY1.out).mono ?_); rintro r w2 ⟨rfl, R2, C2⟩; have HQ := HR.upCh C2 (by simp <;> omega) R2; have K2 := C2.size; have own2 := own.ch C2 (hnb _ (by simp <;> omega))))
            | (at_builtin; go_must (refine wpList_app _ rfl (.tmp 29) (.tmp 35) _ rfl w.heap.size 45 _ 3 32 Try.underlying46 tr_info rfl (by omega) _ _ _ _ rfl (own2.alloc _) _ _ _ _ (trsCells [(true, _, _)]) rfl (Rd.new _ 3 (trsCells [(true, _, _)]) 1 rfl _) (trs_one _) (by unfold maxLen; omega) (by omega) (by simp only [World.size_alloc]; omega) ?_; intro A3 c3 w3 own3 C3 hb3))
          )
          have C4 : Ch (blkOf A) w2 w3 := ((Ch.refl _ w2).alloc _).trans C3
          go_roundw
          case rel => exact ⟨A3, k + 1, c3, ts1 ++ ts2, _, _, rfl, by rw [HTS.out, trsCells_append]; exact own3, HQ.ch C4 (fun z hz => by have := own.blks z hz; omega), (C.trans (C2.mono (by simp <;> omega))).step C4 (fun i hi => .inr (own.blks i hi).1), .inr (.inr ⟨rfl, by omega, hid ⟨hn, rfl, rfl, rfl⟩⟩)⟩
          case measure => simp [intOf]
      · go_wp2
        go_ret
        exact ⟨A, k, cc, rfl, by have := HTS0.out; simp at this; rw [← this]; exact own, by omega, by have := HY2.out; simp at this; rw [← this]; exact HR, C⟩
    · obtain ⟨hn, rfl, rfl, rfl⟩ := HI.out
      rcases hn2 with ⟨rfl, hn, hn1⟩ | ⟨rfl, hn, hn1⟩
      · go_wp2
        go_ret
        exact ⟨A, k, cc, rfl, by have := HTS0.out; simp at this; rw [← this]; exact own, by omega, by have := HY2.out; simp at this; rw [← this]; exact HR, C⟩
      · omega
end
end Go.Proofs.Ytlgbijakljohlaa
