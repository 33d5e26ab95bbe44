/- ginnelhelp.WithSpare, Unchanged over addresses. -/
import Derived.Test.YtjabeabbaambcaaDoorQB
import Derived.Test.YtjabeabbaambcaaDoorQuietC
import Derived.Deep.DeepCutAuto
namespace Go.Proofs.YtjabeabbaambcaaDoor
open Go.RowKit

theorem Rd.frontS {w : World} {B size n m : Nat} {A : Option Addr} {xs ys : List Value} (h : Rd w B size A (n + m) (xs ++ ys)) (hn : xs.length = n * size) : Rd w B size A n xs :=
  ⟨hn, fun hp => by
    obtain ⟨b, off, e, hB, hc⟩ := h.2 (by omega)
    refine ⟨b, off, e, hB, fun i v hi => hc i v ?_⟩
    rw [List.getElem?_append_left (List.getElem?_eq_some_iff.1 hi).1]
    exact hi⟩
theorem adr_flat_len {l : AL} (h : ∀ x ∈ l, x.2.length = 16) : (l.flatMap adrC).length = l.length * 17 := flat_len l fun x hx => adr_len (h x hx)
theorem rd_takeA {w : World} {B n r : Nat} {A : Option Addr} {l : AL} (h : Rd w B 17 A n (l.flatMap adrC)) (hG : ∀ x ∈ l, x.2.length = 16) (hn : l.length = n) (hr : r ≤ n) : Rd w B 17 A r ((l.take r).flatMap adrC) := by
  refine Rd.frontS (m := n - r) (ys := (l.drop r).flatMap adrC) ?_ ?_
  · rw [← List.flatMap_append, List.take_append_drop, show r + (n - r) = n by omega]; exact h
  · rw [adr_flat_len fun x hx => hG x (List.mem_of_mem_take hx), List.length_take, hn, Nat.min_eq_left hr]
def fzA : Bool × List Int := (false, zeros)
set_option maxRecDepth 20000 in
set_option maxHeartbeats 4000000 in
theorem spareA (w : World) (A : Option Addr) (n cap B : Nat) (l : AL) (h : Rd w B 17 A n (l.flatMap adrC)) (hB : B ≤ w.heap.size) (hl : n ≤ 1000000) :
    Calls Tryd.prog 15 #[.slice A n cap, .agg (adrC fzA).toArray] w fun e w' => ∃ g cc, e = .returned (.slice (some ⟨g, 0, none⟩) n (n + 3)) ∧ Own w' w.heap.size 29 17 (some ⟨g, 0, none⟩) (n + 3) cc ((l ++ [fzA, fzA, fzA]).flatMap adrC) ∧ Ch [] w w' := by
  have HR := hid h
  have HO : Hid (∀ u ∈ l.flatMap adrC, u.oneCell' = true) := flat_one l (fun x _ => adr_one x)
  have HI := hid (adr_inf (a := fzA) rfl)
  have B0 : Blk (w.alloc (.cells (adrC fzA).toArray 29)) w.heap.size 29 (adrC fzA) := Blk.new w _ _
  have CC : Ch [] w ((w.alloc (.cells (adrC fzA).toArray 29)).alloc (.cells #[] 29)) := ((Ch.refl [] w).alloc _).alloc _
  have own0 : Own ((w.alloc (.cells (adrC fzA).toArray 29)).alloc (.cells #[] 29)) w.heap.size 29 17 (some ⟨w.heap.size + 1, 0, none⟩) 0 0 [] := Own.blk (g := w.heap.size + 1) (Blk.newAt _ _ _ (by simp)) (by omega) (by unfold maxLen; omega) rfl
  have HO3 : Hid (∀ u ∈ [fzA, fzA, fzA].flatMap adrC, u.oneCell' = true) := flat_one _ (fun x _ => adr_one x)
  clear h
  go_enter Tryd.func15, Tryd.ntmps15
  go_wp2_with (first
    | (at_builtin; (refine wpList_app _ rfl (.tmp 9) (.tmp 13) _ rfl w.heap.size 29 _ 17 17 Tryd.underlying22 addr_infoZ rfl (by omega) _ _ _ _ rfl (own2.alloc _) _ _ _ _ ([fzA, fzA, fzA].flatMap adrC) rfl (Rd.new w2 17 ([fzA, fzA, fzA].flatMap adrC) 3 rfl 29) HO3.out (by unfold maxLen; omega) (by omega) (by have := CC2.size; simp only [World.size_alloc] at this ⊢; omega) ?_; intro A3 c3 w3 own4 ch3 at3; have hcap := own4.cap; unfold maxLen at hcap))
    | (at_builtin; (refine wpList_app _ rfl (.tmp 6) (.tmp 7) _ rfl w.heap.size 29 _ 17 17 Tryd.underlying22 addr_infoZ rfl (by omega) _ _ _ _ rfl own0 _ _ _ _ (l.flatMap adrC) rfl (HR.out.ch CC hB (by simp)) HO.out (by unfold maxLen; omega) (by omega) (by simp only [World.size_alloc]; omega) ?_; intro A2 c2 w2 own2 ch2 at2; simp only [Nat.zero_add, List.nil_append] at own2; have CC2 := CC.step ch2 (fun g hg => .inr (by simp only [blkOf, List.mem_singleton] at hg; omega)); have B2 := (B0.alloc _).ch ch2 (by simp [blkOf])))
    | (refine wpList_loadB rfl 29 _ rfl w.heap.size 29 (adrC fzA) _ rfl B2 Tryd.underlying29 rfl HI.out ?_)
    | (refine wpList_buildRows rfl 22 29 3 _ rfl ([fzA, fzA, fzA].flatMap adrC) _ 17 _ Tryd.underlying22 addr_infoZ (by decide) (by decide) (by kernel_rfl) ?_))
  go_ret
  obtain ⟨g, rfl, _⟩ := own4.form (by omega)
  refine ⟨g, c3, rfl, ?_, (CC2.alloc _).step ch3 (fun i hi => .inr (own2.blks i hi).1)⟩
  rw [List.flatMap_append]
  exact own4
set_option maxRecDepth 20000 in
set_option maxHeartbeats 4000000 in
theorem sameSpareA (w : World) (A A' : Option Addr) (n cap' B B' : Nat) (l : AL) (h : Rd w B 17 A (n + 3) ((l ++ [fzA, fzA, fzA]).flatMap adrC)) (h' : Rd w B' 17 A' n (l.flatMap adrC)) (hB : B ≤ w.heap.size) (hB' : B' ≤ w.heap.size) (hl : n ≤ 1000000) (hG : ∀ x ∈ l, x.2.length = 16) :
    Calls Tryd.prog 18 #[.slice A n (n + 3), .slice A' n cap', .agg (adrC fzA).toArray] w fun e w' => e = .returned (.bool true) ∧ Ch [] w w' := by
  have hf : ∀ x ∈ l ++ [fzA, fzA, fzA], (adrC x).length = 17 := fun x hx => by
    rcases List.mem_append.1 hx with h | h
    · exact adr_len (hG x h)
    · simp only [List.mem_cons, List.not_mem_nil, or_false, or_self] at h
      subst h; rfl
  have hln : l.length = n := h'.count (fun x hx => adr_len (hG x hx)) (by omega)
  obtain ⟨_, h1⟩ := h.rangeE hf (by omega)
  have H1 := hid (h1 (by omega))
  have CA : Ch [] w (w.alloc (.cells (adrC fzA).toArray 29)) := (Ch.refl [] w).alloc _
  have HF : Hid (Rd (w.alloc (.cells (adrC fzA).toArray 29)) B 17 A n (l.flatMap adrC)) := by
    refine Rd.ch (Rd.frontS (m := 3) (ys := [fzA, fzA, fzA].flatMap adrC) ?_ ?_) CA hB (by simp)
    · rw [← List.flatMap_append]; exact h
    · rw [adr_flat_len hG, hln]
  have HF' : Hid (Rd (w.alloc (.cells (adrC fzA).toArray 29)) B' 17 A' n (l.flatMap adrC)) := h'.ch CA hB' (by simp)
  have HG := hid hG
  have HX : Hid (∀ k, n ≤ k → k < n + 3 → (l ++ [fzA, fzA, fzA])[k]? = some fzA) := fun k h1 h2 => by
    rw [List.getElem?_append_right (by omega), hln]
    obtain h | h | h : k - n = 0 ∨ k - n = 1 ∨ k - n = 2 := by omega
    all_goals rw [h]; rfl
  have HI := hid (adr_inf (a := fzA) rfl)
  have B0 : Blk (w.alloc (.cells (adrC fzA).toArray 29)) w.heap.size 29 (adrC fzA) := Blk.new w _ _
  have hq : ∀ w, (Op.equalIn 10000 29 (.agg (adrC fzA).toArray) (.agg (adrC fzA).toArray)).run Tryd.prog w = .ok true w := fun w => by
    have := addr_eq false false zeros zeros rfl rfl w
    simp only [decide_true, BEq.rfl, Bool.and_self] at this
    exact this
  have hBa : B ≤ (w.alloc (.cells (adrC fzA).toArray 29)).heap.size := by simp only [World.size_alloc]; omega
  have hBb : B' ≤ (w.alloc (.cells (adrC fzA).toArray 29)).heap.size := by simp only [World.size_alloc]; omega
  clear h h' hG hf h1 hln
  go_enter Tryd.func18, Tryd.ntmps18
  go_wp2_with (go_at_call 22; (with_reducible refine (eqEqA _ _ _ _ _ _ _ _ l HF.out HF'.out hBa hBb (by omega) HG.out).mono ?_); rintro e w2 ⟨rfl, C2⟩; have B2 := B0.ch C2 (by simp); replace CA := CA.trans C2)
  go_loopw [8] (fun i wr => ∃ k : Nat, n ≤ k ∧ k ≤ n + 3 ∧ i = .int .i64 k ∧ Blk wr w.heap.size 29 (adrC fzA) ∧ Ch [] w wr) (fun i _ => n + 3 - (intOf i).toNat)
  case atStart => exact ⟨n, by omega, by omega, rfl, B2, CA⟩
  case round =>
    clear B2 CA B0
    obtain ⟨k, hk0, hk, rfl, BA, CC⟩ := hrel
    by_cases hlt : k < n + 3
    · obtain ⟨b1, off1, rfl, hb1, hr1⟩ := H1.out
      have HR1 : Hid (∀ w', Ch [] wr w' → w'.rangeAt b1 (off1 + k * 17) (adrC fzA)) := fun w' c => range_ch (hr1 k _ (HX.out k hk0 hlt)) (CC.trans c) (by omega) (by simp)
      have HRF : Hid (∀ w', Ch [] wr w' → w'.rangeAt w.heap.size 0 (adrC fzA)) := fun w' c => (BA.ch c (by simp)).range
      have hi0 : (0 : Int) ≤ k := by omega
      have hi1 : (k : Int) < (n : Int) + 3 := by omega
      clear hr1 hb1 H1
      generalize adrC fzA = cs at HR1 HRF hq HI BA
      go_upto_region 7 with fail
      refine wp_region_quietA (wr) (by kernel_rfl) (by kernel_rfl) (Ch.refl _ _) ?_
      repeat (first
        | (go_big_quiet_want; refine quiet_rowA 29 _ rfl w.heap.size 0 rfl cs _ HRF.out Tryd.underlying29 rfl HI.out ?_; simp only [Act.put, List.setIfInBounds_toArray, List.set_cons_succ, List.set_cons_zero]; go_big_quiet_on)
        | (go_big_quiet_want; refine quiet_rowA 29 _ rfl b1 (off1 + k * 17) rfl cs _ HR1.out Tryd.underlying29 rfl HI.out ?_; simp only [Act.put, List.setIfInBounds_toArray, List.set_cons_succ, List.set_cons_zero]; go_big_quiet_on)
        | go_big_quiet_step (fail))
      refine wpQuiet_nil ?_
      intro wq hwq
      go_wp2_with fail
      go_roundw
      case rel => exact ⟨k + 1, by omega, by omega, by go_num, BA.ch hwq (by simp), CC.trans hwq⟩
      case measure => simp [intOf]; omega
    · obtain rfl : k = n + 3 := by omega
      go_wp2_with fail
      go_ret
      exact ⟨rfl, CC⟩
end Go.Proofs.YtjabeabbaambcaaDoor
