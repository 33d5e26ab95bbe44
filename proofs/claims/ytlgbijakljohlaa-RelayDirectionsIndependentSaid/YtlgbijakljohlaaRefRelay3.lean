/- What the reference's Transfer computes (printed by mk_refrelay3.py). -/
import Derived.Test.YtlgbijakljohlaaRefRelay2
import Derived.Test.YtlgbijakljohlaaRelay2
namespace Go.Proofs.Ytlgbijakljohlaa
open Go.RowKit
section
variable (w : World) (q c : Nat) (x y : PD) (h : refR w q c x y)
include h
set_option maxHeartbeats 4000000 in
theorem refRTransfer (both : Bool) (x1 : PD) (hx1 : x.rd = x1) (y2 : PD) (hy2 : (if both then y.rd else y) = y2) (ts : List (Bool × ByteArray × Bool)) (hts : x.trs false ++ (if both then y.trs true else []) = ts) :
    Calls Try.prog 17 #[.pointer (some ⟨q, 0, none⟩), .bool both] w fun e w' => ∃ A k cc, e = .returned (.slice A k cc) ∧ Own w' w.heap.size 45 3 A k cc (trsCells ts) ∧ k ≤ 2 ∧ refR w' q c x1 y2 ∧ Ch [q] w w' := by
  have hl0 := h.blk.lt
  obtain ⟨y1, hy1⟩ : ∃ y1, y.rd = y1 := ⟨_, rfl⟩
  obtain ⟨ts1, ht1⟩ : ∃ z, x.trs false = z := ⟨_, rfl⟩
  obtain ⟨ts2, ht2⟩ : ∃ z, y.trs true = z := ⟨_, rfl⟩
  obtain ⟨s1, hs1⟩ : ∃ z, strOfNums (x.xs.take x.n) = z := ⟨_, rfl⟩
  obtain ⟨s2, hs2⟩ : ∃ z, strOfNums (y.xs.take y.n) = z := ⟨_, rfl⟩
  obtain ⟨e1, he1⟩ : ∃ z, x.e = z := ⟨_, rfl⟩
  obtain ⟨e2, he2⟩ : ∃ z, y.e = z := ⟨_, rfl⟩
  have hA := PD.trs_cases false x s1 hs1 e1 he1 ts1 ht1
  have hB := PD.trs_cases true y s2 hs2 e2 he2 ts2 ht2
  rw [ht1, ht2] at hts
  rw [hy1] at hy2
  have HX1 := hid hx1
  have HY1 := hid hy1
  have HS1 := hid hs1
  have HS2 := hid hs2
  have HE1 := hid he1
  have HE2 := hid he2
  have HTS0 := hid hts
  have HY2 := hid hy2
  clear hx1 hy1 hs1 hs2 he1 he2 hts hy2 ht1 ht2
  have HAB := hid hB
  clear hB
  cases both
  · rcases hA with hc | hc | hc
    · skip
      obtain ⟨rfl, rfl, hts⟩ := hc
      have HT1 := hid hts
      clear hts
      go_enter Try.func17, Try.ntmps17
      go_wp2_with (first
        | (go_at_call 32; go_must ((with_reducible refine (rDRead _ q c x y h _ HS1.out _ HE1.out _ HX1.out).mono ?_); rintro r w2 ⟨rfl, R2, C2⟩; have K2 := C2.size)))
      go_ret
      exact ⟨none, 0, 0, rfl, by have e := HTS0.out; rw [HT1.out] at e; simp at e; subst e; exact Own.nil _ _ _ _, by omega, by have e := HY2.out; simp at e; subst e; exact R2, C2⟩
    · skip
      obtain ⟨rfl, rfl, hts⟩ := hc
      have HT1 := hid hts
      clear hts
      go_enter Try.func17, Try.ntmps17
      go_wp2_with (first
        | (go_at_call 32; go_must ((with_reducible refine (rDRead _ q c x y h _ HS1.out _ HE1.out _ HX1.out).mono ?_); rintro r w2 ⟨rfl, R2, C2⟩; have K2 := C2.size))
        | (at_builtin; go_must (refine wpList_app _ rfl (.tmp 20) (.tmp 24) _ rfl w.heap.size 45 _ 3 32 Try.underlying46 tr_info rfl (by omega) _ _ _ _ rfl (Own.nil _ _ _ _) _ _ _ _ (trsCells [(false, _, _)]) rfl (Rd.new _ 3 (trsCells [(false, _, _)]) 1 rfl _) (trs_one _) (by unfold maxLen; omega) (by omega) (by simp only [World.size_alloc]; omega) ?_; intro A3 c3 w3 own3 C3 hb3; have C4 : Ch [] w2 w3 := ((Ch.refl _ w2).alloc _).trans C3; have K4 := C4.size; have hA3 : ∀ z ∈ blkOf A3, w.heap.size ≤ z := fun z hz => (own3.blks z hz).1; have R4 := R2.ch C4 (by simp))))
      go_ret
      exact ⟨A3, 1, c3, rfl, by have e := HTS0.out; rw [HT1.out] at e; simp at e; subst e; exact own3, by omega, by have e := HY2.out; simp at e; subst e; exact R4, C2.trans (C4.mono (by simp))⟩
    · skip
      obtain ⟨hne, hts⟩ := hc
      have hne2 : ¬ s1.toList = [] := by intro h0; rw [h0] at hne; simp at hne
      have HT1 := hid hts
      clear hts
      go_enter Try.func17, Try.ntmps17
      go_wp2_with (first
        | (go_at_call 32; go_must ((with_reducible refine (rDRead _ q c x y h _ HS1.out _ HE1.out _ HX1.out).mono ?_); rintro r w2 ⟨rfl, R2, C2⟩; have K2 := C2.size))
        | (at_builtin; go_must (refine wpList_app _ rfl (.tmp 20) (.tmp 24) _ rfl w.heap.size 45 _ 3 32 Try.underlying46 tr_info rfl (by omega) _ _ _ _ rfl (Own.nil _ _ _ _) _ _ _ _ (trsCells [(false, _, _)]) rfl (Rd.new _ 3 (trsCells [(false, _, _)]) 1 rfl _) (trs_one _) (by unfold maxLen; omega) (by omega) (by simp only [World.size_alloc]; omega) ?_; intro A3 c3 w3 own3 C3 hb3; have C4 : Ch [] w2 w3 := ((Ch.refl _ w2).alloc _).trans C3; have K4 := C4.size; have hA3 : ∀ z ∈ blkOf A3, w.heap.size ≤ z := fun z hz => (own3.blks z hz).1; have R4 := R2.ch C4 (by simp))))
      go_ret
      exact ⟨A3, 1, c3, rfl, by have e := HTS0.out; rw [HT1.out] at e; simp at e; subst e; exact own3, by omega, by have e := HY2.out; simp at e; subst e; exact R4, C2.trans (C4.mono (by simp))⟩
  · rcases hA with hc | hc | hc <;> rcases HAB.out with hc2 | hc2 | hc2
    · skip
      obtain ⟨rfl, rfl, hts⟩ := hc
      have HT1 := hid hts
      clear hts
      obtain ⟨rfl, rfl, hts⟩ := hc2
      have HT2 := hid hts
      clear hts
      go_enter Try.func17, Try.ntmps17
      go_wp2_with (first
        | (go_at_call 32; ((with_reducible refine (rURead _ q c x1 y R2 _ HS2.out _ HE2.out _ HY1.out).mono ?_); rintro r w5 ⟨rfl, R5, C5⟩; have K5 := C5.size))
        | (go_at_call 32; go_must ((with_reducible refine (rDRead _ q c x y h _ HS1.out _ HE1.out _ HX1.out).mono ?_); rintro r w2 ⟨rfl, R2, C2⟩; have K2 := C2.size)))
      go_ret
      exact ⟨none, 0, 0, rfl, by have e := HTS0.out; rw [HT1.out, HT2.out] at e; simp at e; subst e; exact Own.nil _ _ _ _, by omega, by have e := HY2.out; simp at e; subst e; exact R5, (C2.trans C5)⟩
    · skip
      obtain ⟨rfl, rfl, hts⟩ := hc
      have HT1 := hid hts
      clear hts
      obtain ⟨rfl, rfl, hts⟩ := hc2
      have HT2 := hid hts
      clear hts
      go_enter Try.func17, Try.ntmps17
      go_wp2_with (first
        | (at_builtin; (refine wpList_app _ rfl (.tmp 41) (.tmp 45) _ rfl w.heap.size 45 _ 3 32 Try.underlying46 tr_info rfl (by omega) _ _ _ _ rfl (Own.nil _ _ _ _) _ _ _ _ (trsCells [(true, _, _)]) rfl (Rd.new _ 3 (trsCells [(true, _, _)]) 1 rfl _) (trs_one _) (by unfold maxLen; omega) (by omega) (by simp only [World.size_alloc]; omega) ?_; intro A6 c6 w6 own6 C6 hb6))
        | (go_at_call 32; ((with_reducible refine (rURead _ q c x1 y R2 _ HS2.out _ HE2.out _ HY1.out).mono ?_); rintro r w5 ⟨rfl, R5, C5⟩; have K5 := C5.size))
        | (go_at_call 32; go_must ((with_reducible refine (rDRead _ q c x y h _ HS1.out _ HE1.out _ HX1.out).mono ?_); rintro r w2 ⟨rfl, R2, C2⟩; have K2 := C2.size)))
      go_ret
      have C7 : Ch (blkOf none) w5 w6 := ((Ch.refl _ w5).alloc _).trans C6
      exact ⟨A6, 1, c6, rfl, by have e := HTS0.out; rw [HT1.out, HT2.out] at e; simp at e; subst e; exact own6, by omega, by have e := HY2.out; simp at e; subst e; exact R5.ch C7 (by simp [blkOf]), (C2.trans C5).step C7 (fun i hi => by simp [blkOf] at hi)⟩
    · skip
      obtain ⟨rfl, rfl, hts⟩ := hc
      have HT1 := hid hts
      clear hts
      obtain ⟨hme, hts⟩ := hc2
      have hme2 : ¬ s2.toList = [] := by intro h0; rw [h0] at hme; simp at hme
      have HT2 := hid hts
      clear hts
      go_enter Try.func17, Try.ntmps17
      go_wp2_with (first
        | (at_builtin; (refine wpList_app _ rfl (.tmp 41) (.tmp 45) _ rfl w.heap.size 45 _ 3 32 Try.underlying46 tr_info rfl (by omega) _ _ _ _ rfl (Own.nil _ _ _ _) _ _ _ _ (trsCells [(true, _, _)]) rfl (Rd.new _ 3 (trsCells [(true, _, _)]) 1 rfl _) (trs_one _) (by unfold maxLen; omega) (by omega) (by simp only [World.size_alloc]; omega) ?_; intro A6 c6 w6 own6 C6 hb6))
        | (go_at_call 32; ((with_reducible refine (rURead _ q c x1 y R2 _ HS2.out _ HE2.out _ HY1.out).mono ?_); rintro r w5 ⟨rfl, R5, C5⟩; have K5 := C5.size))
        | (go_at_call 32; go_must ((with_reducible refine (rDRead _ q c x y h _ HS1.out _ HE1.out _ HX1.out).mono ?_); rintro r w2 ⟨rfl, R2, C2⟩; have K2 := C2.size)))
      go_ret
      have C7 : Ch (blkOf none) w5 w6 := ((Ch.refl _ w5).alloc _).trans C6
      exact ⟨A6, 1, c6, rfl, by have e := HTS0.out; rw [HT1.out, HT2.out] at e; simp at e; subst e; exact own6, by omega, by have e := HY2.out; simp at e; subst e; exact R5.ch C7 (by simp [blkOf]), (C2.trans C5).step C7 (fun i hi => by simp [blkOf] at hi)⟩
    · skip
      obtain ⟨rfl, rfl, hts⟩ := hc
      have HT1 := hid hts
      clear hts
      obtain ⟨rfl, rfl, hts⟩ := hc2
      have HT2 := hid hts
      clear hts
      go_enter Try.func17, Try.ntmps17
      go_wp2_with (first
        | (go_at_call 32; ((with_reducible refine (rURead _ q c x1 y R4 _ HS2.out _ HE2.out _ HY1.out).mono ?_); rintro r w5 ⟨rfl, R5, C5⟩; have K5 := C5.size; have own5 := own3.ch C5 (fun g hg hm => by have := hA3 g hg; simp at hm; omega)))
        | (at_builtin; go_must (refine wpList_app _ rfl (.tmp 20) (.tmp 24) _ rfl w.heap.size 45 _ 3 32 Try.underlying46 tr_info rfl (by omega) _ _ _ _ rfl (Own.nil _ _ _ _) _ _ _ _ (trsCells [(false, _, _)]) rfl (Rd.new _ 3 (trsCells [(false, _, _)]) 1 rfl _) (trs_one _) (by unfold maxLen; omega) (by omega) (by simp only [World.size_alloc]; omega) ?_; intro A3 c3 w3 own3 C3 hb3; have C4 : Ch [] w2 w3 := ((Ch.refl _ w2).alloc _).trans C3; have K4 := C4.size; have hA3 : ∀ z ∈ blkOf A3, w.heap.size ≤ z := fun z hz => (own3.blks z hz).1; have R4 := R2.ch C4 (by simp)))
        | (go_at_call 32; go_must ((with_reducible refine (rDRead _ q c x y h _ HS1.out _ HE1.out _ HX1.out).mono ?_); rintro r w2 ⟨rfl, R2, C2⟩; have K2 := C2.size)))
      go_ret
      exact ⟨A3, 1, c3, rfl, by have e := HTS0.out; rw [HT1.out, HT2.out] at e; simp at e; subst e; exact own5, by omega, by have e := HY2.out; simp at e; subst e; exact R5, ((C2.trans (C4.mono (by simp))).trans C5)⟩
    · skip
      obtain ⟨rfl, rfl, hts⟩ := hc
      have HT1 := hid hts
      clear hts
      obtain ⟨rfl, rfl, hts⟩ := hc2
      have HT2 := hid hts
      clear hts
      go_enter Try.func17, Try.ntmps17
      go_wp2_with (first
        | (at_builtin; (refine wpList_app _ rfl (.tmp 41) (.tmp 45) _ rfl w.heap.size 45 _ 3 32 Try.underlying46 tr_info rfl (by omega) _ _ _ _ rfl (own5.alloc _) _ _ _ _ (trsCells [(true, _, _)]) rfl (Rd.new _ 3 (trsCells [(true, _, _)]) 1 rfl _) (trs_one _) (by unfold maxLen; omega) (by omega) (by simp only [World.size_alloc]; omega) ?_; intro A6 c6 w6 own6 C6 hb6))
        | (go_at_call 32; ((with_reducible refine (rURead _ q c x1 y R4 _ HS2.out _ HE2.out _ HY1.out).mono ?_); rintro r w5 ⟨rfl, R5, C5⟩; have K5 := C5.size; have own5 := own3.ch C5 (fun g hg hm => by have := hA3 g hg; simp at hm; omega)))
        | (at_builtin; go_must (refine wpList_app _ rfl (.tmp 20) (.tmp 24) _ rfl w.heap.size 45 _ 3 32 Try.underlying46 tr_info rfl (by omega) _ _ _ _ rfl (Own.nil _ _ _ _) _ _ _ _ (trsCells [(false, _, _)]) rfl (Rd.new _ 3 (trsCells [(false, _, _)]) 1 rfl _) (trs_one _) (by unfold maxLen; omega) (by omega) (by simp only [World.size_alloc]; omega) ?_; intro A3 c3 w3 own3 C3 hb3; have C4 : Ch [] w2 w3 := ((Ch.refl _ w2).alloc _).trans C3; have K4 := C4.size; have hA3 : ∀ z ∈ blkOf A3, w.heap.size ≤ z := fun z hz => (own3.blks z hz).1; have R4 := R2.ch C4 (by simp)))
        | (go_at_call 32; go_must ((with_reducible refine (rDRead _ q c x y h _ HS1.out _ HE1.out _ HX1.out).mono ?_); rintro r w2 ⟨rfl, R2, C2⟩; have K2 := C2.size)))
      go_ret
      have C7 : Ch (blkOf A3) w5 w6 := ((Ch.refl _ w5).alloc _).trans C6
      exact ⟨A6, 2, c6, rfl, by have e := HTS0.out; rw [HT1.out, HT2.out] at e; simp at e; subst e; exact own6, by omega, by have e := HY2.out; simp at e; subst e; exact R5.ch C7 (fun hm => by have := hA3 q hm; omega), ((C2.trans (C4.mono (by simp))).trans C5).step C7 (fun i hi => .inr (hA3 i hi))⟩
    · skip
      obtain ⟨rfl, rfl, hts⟩ := hc
      have HT1 := hid hts
      clear hts
      obtain ⟨hme, hts⟩ := hc2
      have hme2 : ¬ s2.toList = [] := by intro h0; rw [h0] at hme; simp at hme
      have HT2 := hid hts
      clear hts
      go_enter Try.func17, Try.ntmps17
      go_wp2_with (first
        | (at_builtin; (refine wpList_app _ rfl (.tmp 41) (.tmp 45) _ rfl w.heap.size 45 _ 3 32 Try.underlying46 tr_info rfl (by omega) _ _ _ _ rfl (own5.alloc _) _ _ _ _ (trsCells [(true, _, _)]) rfl (Rd.new _ 3 (trsCells [(true, _, _)]) 1 rfl _) (trs_one _) (by unfold maxLen; omega) (by omega) (by simp only [World.size_alloc]; omega) ?_; intro A6 c6 w6 own6 C6 hb6))
        | (go_at_call 32; ((with_reducible refine (rURead _ q c x1 y R4 _ HS2.out _ HE2.out _ HY1.out).mono ?_); rintro r w5 ⟨rfl, R5, C5⟩; have K5 := C5.size; have own5 := own3.ch C5 (fun g hg hm => by have := hA3 g hg; simp at hm; omega)))
        | (at_builtin; go_must (refine wpList_app _ rfl (.tmp 20) (.tmp 24) _ rfl w.heap.size 45 _ 3 32 Try.underlying46 tr_info rfl (by omega) _ _ _ _ rfl (Own.nil _ _ _ _) _ _ _ _ (trsCells [(false, _, _)]) rfl (Rd.new _ 3 (trsCells [(false, _, _)]) 1 rfl _) (trs_one _) (by unfold maxLen; omega) (by omega) (by simp only [World.size_alloc]; omega) ?_; intro A3 c3 w3 own3 C3 hb3; have C4 : Ch [] w2 w3 := ((Ch.refl _ w2).alloc _).trans C3; have K4 := C4.size; have hA3 : ∀ z ∈ blkOf A3, w.heap.size ≤ z := fun z hz => (own3.blks z hz).1; have R4 := R2.ch C4 (by simp)))
        | (go_at_call 32; go_must ((with_reducible refine (rDRead _ q c x y h _ HS1.out _ HE1.out _ HX1.out).mono ?_); rintro r w2 ⟨rfl, R2, C2⟩; have K2 := C2.size)))
      go_ret
      have C7 : Ch (blkOf A3) w5 w6 := ((Ch.refl _ w5).alloc _).trans C6
      exact ⟨A6, 2, c6, rfl, by have e := HTS0.out; rw [HT1.out, HT2.out] at e; simp at e; subst e; exact own6, by omega, by have e := HY2.out; simp at e; subst e; exact R5.ch C7 (fun hm => by have := hA3 q hm; omega), ((C2.trans (C4.mono (by simp))).trans C5).step C7 (fun i hi => .inr (hA3 i hi))⟩
    · skip
      obtain ⟨hne, hts⟩ := hc
      have hne2 : ¬ s1.toList = [] := by intro h0; rw [h0] at hne; simp at hne
      have HT1 := hid hts
      clear hts
      obtain ⟨rfl, rfl, hts⟩ := hc2
      have HT2 := hid hts
      clear hts
      go_enter Try.func17, Try.ntmps17
      go_wp2_with (first
        | (go_at_call 32; ((with_reducible refine (rURead _ q c x1 y R4 _ HS2.out _ HE2.out _ HY1.out).mono ?_); rintro r w5 ⟨rfl, R5, C5⟩; have K5 := C5.size; have own5 := own3.ch C5 (fun g hg hm => by have := hA3 g hg; simp at hm; omega)))
        | (at_builtin; go_must (refine wpList_app _ rfl (.tmp 20) (.tmp 24) _ rfl w.heap.size 45 _ 3 32 Try.underlying46 tr_info rfl (by omega) _ _ _ _ rfl (Own.nil _ _ _ _) _ _ _ _ (trsCells [(false, _, _)]) rfl (Rd.new _ 3 (trsCells [(false, _, _)]) 1 rfl _) (trs_one _) (by unfold maxLen; omega) (by omega) (by simp only [World.size_alloc]; omega) ?_; intro A3 c3 w3 own3 C3 hb3; have C4 : Ch [] w2 w3 := ((Ch.refl _ w2).alloc _).trans C3; have K4 := C4.size; have hA3 : ∀ z ∈ blkOf A3, w.heap.size ≤ z := fun z hz => (own3.blks z hz).1; have R4 := R2.ch C4 (by simp)))
        | (go_at_call 32; go_must ((with_reducible refine (rDRead _ q c x y h _ HS1.out _ HE1.out _ HX1.out).mono ?_); rintro r w2 ⟨rfl, R2, C2⟩; have K2 := C2.size)))
      go_ret
      exact ⟨A3, 1, c3, rfl, by have e := HTS0.out; rw [HT1.out, HT2.out] at e; simp at e; subst e; exact own5, by omega, by have e := HY2.out; simp at e; subst e; exact R5, ((C2.trans (C4.mono (by simp))).trans C5)⟩
    · skip
      obtain ⟨hne, hts⟩ := hc
      have hne2 : ¬ s1.toList = [] := by intro h0; rw [h0] at hne; simp at hne
      have HT1 := hid hts
      clear hts
      obtain ⟨rfl, rfl, hts⟩ := hc2
      have HT2 := hid hts
      clear hts
      go_enter Try.func17, Try.ntmps17
      go_wp2_with (first
        | (at_builtin; (refine wpList_app _ rfl (.tmp 41) (.tmp 45) _ rfl w.heap.size 45 _ 3 32 Try.underlying46 tr_info rfl (by omega) _ _ _ _ rfl (own5.alloc _) _ _ _ _ (trsCells [(true, _, _)]) rfl (Rd.new _ 3 (trsCells [(true, _, _)]) 1 rfl _) (trs_one _) (by unfold maxLen; omega) (by omega) (by simp only [World.size_alloc]; omega) ?_; intro A6 c6 w6 own6 C6 hb6))
        | (go_at_call 32; ((with_reducible refine (rURead _ q c x1 y R4 _ HS2.out _ HE2.out _ HY1.out).mono ?_); rintro r w5 ⟨rfl, R5, C5⟩; have K5 := C5.size; have own5 := own3.ch C5 (fun g hg hm => by have := hA3 g hg; simp at hm; omega)))
        | (at_builtin; go_must (refine wpList_app _ rfl (.tmp 20) (.tmp 24) _ rfl w.heap.size 45 _ 3 32 Try.underlying46 tr_info rfl (by omega) _ _ _ _ rfl (Own.nil _ _ _ _) _ _ _ _ (trsCells [(false, _, _)]) rfl (Rd.new _ 3 (trsCells [(false, _, _)]) 1 rfl _) (trs_one _) (by unfold maxLen; omega) (by omega) (by simp only [World.size_alloc]; omega) ?_; intro A3 c3 w3 own3 C3 hb3; have C4 : Ch [] w2 w3 := ((Ch.refl _ w2).alloc _).trans C3; have K4 := C4.size; have hA3 : ∀ z ∈ blkOf A3, w.heap.size ≤ z := fun z hz => (own3.blks z hz).1; have R4 := R2.ch C4 (by simp)))
        | (go_at_call 32; go_must ((with_reducible refine (rDRead _ q c x y h _ HS1.out _ HE1.out _ HX1.out).mono ?_); rintro r w2 ⟨rfl, R2, C2⟩; have K2 := C2.size)))
      go_ret
      have C7 : Ch (blkOf A3) w5 w6 := ((Ch.refl _ w5).alloc _).trans C6
      exact ⟨A6, 2, c6, rfl, by have e := HTS0.out; rw [HT1.out, HT2.out] at e; simp at e; subst e; exact own6, by omega, by have e := HY2.out; simp at e; subst e; exact R5.ch C7 (fun hm => by have := hA3 q hm; omega), ((C2.trans (C4.mono (by simp))).trans C5).step C7 (fun i hi => .inr (hA3 i hi))⟩
    · skip
      obtain ⟨hne, hts⟩ := hc
      have hne2 : ¬ s1.toList = [] := by intro h0; rw [h0] at hne; simp at hne
      have HT1 := hid hts
      clear hts
      obtain ⟨hme, hts⟩ := hc2
      have hme2 : ¬ s2.toList = [] := by intro h0; rw [h0] at hme; simp at hme
      have HT2 := hid hts
      clear hts
      go_enter Try.func17, Try.ntmps17
      go_wp2_with (first
        | (at_builtin; (refine wpList_app _ rfl (.tmp 41) (.tmp 45) _ rfl w.heap.size 45 _ 3 32 Try.underlying46 tr_info rfl (by omega) _ _ _ _ rfl (own5.alloc _) _ _ _ _ (trsCells [(true, _, _)]) rfl (Rd.new _ 3 (trsCells [(true, _, _)]) 1 rfl _) (trs_one _) (by unfold maxLen; omega) (by omega) (by simp only [World.size_alloc]; omega) ?_; intro A6 c6 w6 own6 C6 hb6))
        | (go_at_call 32; ((with_reducible refine (rURead _ q c x1 y R4 _ HS2.out _ HE2.out _ HY1.out).mono ?_); rintro r w5 ⟨rfl, R5, C5⟩; have K5 := C5.size; have own5 := own3.ch C5 (fun g hg hm => by have := hA3 g hg; simp at hm; omega)))
        | (at_builtin; go_must (refine wpList_app _ rfl (.tmp 20) (.tmp 24) _ rfl w.heap.size 45 _ 3 32 Try.underlying46 tr_info rfl (by omega) _ _ _ _ rfl (Own.nil _ _ _ _) _ _ _ _ (trsCells [(false, _, _)]) rfl (Rd.new _ 3 (trsCells [(false, _, _)]) 1 rfl _) (trs_one _) (by unfold maxLen; omega) (by omega) (by simp only [World.size_alloc]; omega) ?_; intro A3 c3 w3 own3 C3 hb3; have C4 : Ch [] w2 w3 := ((Ch.refl _ w2).alloc _).trans C3; have K4 := C4.size; have hA3 : ∀ z ∈ blkOf A3, w.heap.size ≤ z := fun z hz => (own3.blks z hz).1; have R4 := R2.ch C4 (by simp)))
        | (go_at_call 32; go_must ((with_reducible refine (rDRead _ q c x y h _ HS1.out _ HE1.out _ HX1.out).mono ?_); rintro r w2 ⟨rfl, R2, C2⟩; have K2 := C2.size)))
      go_ret
      have C7 : Ch (blkOf A3) w5 w6 := ((Ch.refl _ w5).alloc _).trans C6
      exact ⟨A6, 2, c6, rfl, by have e := HTS0.out; rw [HT1.out, HT2.out] at e; simp at e; subst e; exact own6, by omega, by have e := HY2.out; simp at e; subst e; exact R5.ch C7 (fun hm => by have := hA3 q hm; omega), ((C2.trans (C4.mono (by simp))).trans C5).step C7 (fun i hi => .inr (hA3 i hi))⟩
end
end Go.Proofs.Ytlgbijakljohlaa
