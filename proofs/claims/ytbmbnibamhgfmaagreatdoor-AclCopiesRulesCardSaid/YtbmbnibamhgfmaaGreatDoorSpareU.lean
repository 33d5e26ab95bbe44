/- ginnelhelp.WithSpare, Unchanged over rules (printed by mk_aclh.py). -/
import Derived.Test.YtbmbnibamhgfmaaGreatDoorHelpU
import Derived.Test.YtbmbnibamhgfmaaGreatDoorMC
import Derived.Deep.DeepCutAuto
namespace Go.Proofs.YtbmbnibamhgfmaaGreatDoor
open Go.RowKit

theorem Rd.frontS {w : World} {B size n m : Nat} {A : Option Addr} {xs ys : List Value} (h : Rd w B size A (n + m) (xs ++ ys)) (hn : xs.length = n * size) : Rd w B size A n xs :=
  ⟨hn, fun hp => by
    obtain ⟨b, off, e, hB, hc⟩ := h.2 (by omega)
    refine ⟨b, off, e, hB, fun i v hi => hc i v ?_⟩
    rw [List.getElem?_append_left (List.getElem?_eq_some_iff.1 hi).1]
    exact hi⟩
theorem rul_flat_len {l : List Rl} (h : ∀ x ∈ l, x.2.2.1.2.1.length = 16) : (l.flatMap rulC).length = l.length * 22 := flat_len l fun x hx => rul_len (h x hx)
theorem rd_takeU {w : World} {B n r : Nat} {A : Option Addr} {l : List Rl} (h : Rd w B 22 A n (l.flatMap rulC)) (hG : ∀ x ∈ l, x.2.2.1.2.1.length = 16) (hn : l.length = n) (hr : r ≤ n) : Rd w B 22 A r ((l.take r).flatMap rulC) := by
  refine Rd.frontS (m := n - r) (ys := (l.drop r).flatMap rulC) ?_ ?_
  · rw [← List.flatMap_append, List.take_append_drop, show r + (n - r) = n by omega]; exact h
  · rw [rul_flat_len fun x hx => hG x (List.mem_of_mem_take hx), List.length_take, hn, Nat.min_eq_left hr]
def fzU : Rl := (false, ⟨#[122]⟩, zeroP, 0, 0)
set_option maxRecDepth 20000 in
set_option maxHeartbeats 4000000 in
theorem spareU (w : World) (A : Option Addr) (n cap B : Nat) (l : List Rl) (h : Rd w B 22 A n (l.flatMap rulC)) (hB : B ≤ w.heap.size) (hl : n ≤ 1000000) :
    Calls Tryz.prog 27 #[.slice A n cap, .agg (rulC fzU).toArray] w fun e w' => ∃ g cc, e = .returned (.slice (some ⟨g, 0, none⟩) n (n + 3)) ∧ Own w' w.heap.size 58 22 (some ⟨g, 0, none⟩) (n + 3) cc ((l ++ [fzU, fzU, fzU]).flatMap rulC) ∧ Ch [] w w' := by
  have HR := hid h
  have HO : Hid (∀ u ∈ l.flatMap rulC, u.oneCell' = true) := flat_one l (fun x _ => rul_one x)
  have HI := hid (rul_inf (r := fzU) rfl)
  have B0 : Blk (w.alloc (.cells (rulC fzU).toArray 58)) w.heap.size 58 (rulC fzU) := Blk.new w _ _
  have CC : Ch [] w ((w.alloc (.cells (rulC fzU).toArray 58)).alloc (.cells #[] 58)) := ((Ch.refl [] w).alloc _).alloc _
  have own0 : Own ((w.alloc (.cells (rulC fzU).toArray 58)).alloc (.cells #[] 58)) w.heap.size 58 22 (some ⟨w.heap.size + 1, 0, none⟩) 0 0 [] := Own.blk (g := w.heap.size + 1) (Blk.newAt _ _ _ (by simp)) (by omega) (by unfold maxLen; omega) rfl
  have HO3 : Hid (∀ u ∈ [fzU, fzU, fzU].flatMap rulC, u.oneCell' = true) := flat_one _ (fun x _ => rul_one x)
  clear h
  go_enter Tryz.func27, Tryz.ntmps27
  go_wp2_with (first
    | (at_builtin; (refine wpList_app _ rfl (.tmp 9) (.tmp 13) _ rfl w.heap.size 58 _ 22 72 Tryz.underlying22 rul_infoZ rfl (by omega) _ _ _ _ rfl (own2.alloc _) _ _ _ _ ([fzU, fzU, fzU].flatMap rulC) rfl (Rd.new w2 22 ([fzU, fzU, fzU].flatMap rulC) 3 rfl 58) HO3.out (by unfold maxLen; omega) (by omega) (by have := CC2.size; simp only [World.size_alloc] at this ⊢; omega) ?_; intro A3 c3 w3 own4 ch3 at3; have hcap := own4.cap; unfold maxLen at hcap))
    | (at_builtin; (refine wpList_app _ rfl (.tmp 6) (.tmp 7) _ rfl w.heap.size 58 _ 22 72 Tryz.underlying22 rul_infoZ rfl (by omega) _ _ _ _ rfl own0 _ _ _ _ (l.flatMap rulC) rfl (HR.out.ch CC hB (by simp)) HO.out (by unfold maxLen; omega) (by omega) (by simp only [World.size_alloc]; omega) ?_; intro A2 c2 w2 own2 ch2 at2; simp only [Nat.zero_add, List.nil_append] at own2; have CC2 := CC.step ch2 (fun g hg => .inr (by simp only [blkOf, List.mem_singleton] at hg; omega)); have B2 := (B0.alloc _).ch ch2 (by simp [blkOf])))
    | (refine wpList_loadB rfl 58 _ rfl w.heap.size 58 (rulC fzU) _ rfl B2 Tryz.underlying58 rfl HI.out ?_)
    | (refine wpList_buildRows rfl 22 58 3 _ rfl ([fzU, fzU, fzU].flatMap rulC) _ 22 _ Tryz.underlying22 rul_infoZ (by decide) (by decide) (by kernel_rfl) ?_))
  go_ret
  obtain ⟨g, rfl, _⟩ := own4.form (by omega)
  refine ⟨g, c3, rfl, ?_, (CC2.alloc _).step ch3 (fun i hi => .inr (own2.blks i hi).1)⟩
  rw [List.flatMap_append]
  exact own4
set_option maxRecDepth 20000 in
set_option maxHeartbeats 4000000 in
theorem sameSpareU (w : World) (A A' : Option Addr) (n cap' B B' : Nat) (l : List Rl) (h : Rd w B 22 A (n + 3) ((l ++ [fzU, fzU, fzU]).flatMap rulC)) (h' : Rd w B' 22 A' n (l.flatMap rulC)) (hB : B ≤ w.heap.size) (hB' : B' ≤ w.heap.size) (hl : n ≤ 1000000) (hG : ∀ x ∈ l, x.2.2.1.2.1.length = 16) :
    Calls Tryz.prog 28 #[.slice A n (n + 3), .slice A' n cap', .agg (rulC fzU).toArray] w fun e w' => e = .returned (.bool true) ∧ Ch [] w w' := by
  have hf : ∀ x ∈ l ++ [fzU, fzU, fzU], (rulC x).length = 22 := fun x hx => by
    rcases List.mem_append.1 hx with h | h
    · exact rul_len (hG x h)
    · simp only [List.mem_cons, List.not_mem_nil, or_false, or_self] at h
      subst h; rfl
  have hln : l.length = n := h'.count (fun x hx => rul_len (hG x hx)) (by omega)
  obtain ⟨_, h1⟩ := h.rangeE hf (by omega)
  have H1 := hid (h1 (by omega))
  have CA : Ch [] w (w.alloc (.cells (rulC fzU).toArray 58)) := (Ch.refl [] w).alloc _
  have HF : Hid (Rd (w.alloc (.cells (rulC fzU).toArray 58)) B 22 A n (l.flatMap rulC)) := by
    refine Rd.ch (Rd.frontS (m := 3) (ys := [fzU, fzU, fzU].flatMap rulC) ?_ ?_) CA hB (by simp)
    · rw [← List.flatMap_append]; exact h
    · rw [rul_flat_len hG, hln]
  have HF' : Hid (Rd (w.alloc (.cells (rulC fzU).toArray 58)) B' 22 A' n (l.flatMap rulC)) := h'.ch CA hB' (by simp)
  have HG := hid hG
  have HX : Hid (∀ k, n ≤ k → k < n + 3 → (l ++ [fzU, fzU, fzU])[k]? = some fzU) := fun k h1 h2 => by
    rw [List.getElem?_append_right (by omega), hln]
    obtain h | h | h : k - n = 0 ∨ k - n = 1 ∨ k - n = 2 := by omega
    all_goals rw [h]; rfl
  have HI := hid (rul_inf (r := fzU) rfl)
  have B0 : Blk (w.alloc (.cells (rulC fzU).toArray 58)) w.heap.size 58 (rulC fzU) := Blk.new w _ _
  have hq : ∀ w, (Op.equalIn 10000 58 (.agg (rulC fzU).toArray) (.agg (rulC fzU).toArray)).run Tryz.prog w = .ok true w := fun w => rul_same fzU rfl w
  have hBa : B ≤ (w.alloc (.cells (rulC fzU).toArray 58)).heap.size := by simp only [World.size_alloc]; omega
  have hBb : B' ≤ (w.alloc (.cells (rulC fzU).toArray 58)).heap.size := by simp only [World.size_alloc]; omega
  clear h h' hG hf h1 hln
  go_enter Tryz.func28, Tryz.ntmps28
  go_wp2_with (go_at_call 63; (with_reducible refine (eqEqU _ _ _ _ _ _ _ _ l HF.out HF'.out hBa hBb (by omega) HG.out).mono ?_); rintro e w2 ⟨rfl, C2⟩; have B2 := B0.ch C2 (by simp); replace CA := CA.trans C2)
  go_loopw [8] (fun i wr => ∃ k : Nat, n ≤ k ∧ k ≤ n + 3 ∧ i = .int .i64 k ∧ Blk wr w.heap.size 58 (rulC fzU) ∧ Ch [] w wr) (fun i _ => n + 3 - (intOf i).toNat)
  case atStart => exact ⟨n, by omega, by omega, rfl, B2, CA⟩
  case round =>
    clear B2 CA B0
    obtain ⟨k, hk0, hk, rfl, BA, CC⟩ := hrel
    by_cases hlt : k < n + 3
    · obtain ⟨b1, off1, rfl, hb1, hr1⟩ := H1.out
      have HR1 : Hid (∀ w', Ch [] wr w' → w'.rangeAt b1 (off1 + k * 22) (rulC fzU)) := fun w' c => range_ch (hr1 k _ (HX.out k hk0 hlt)) (CC.trans c) (by omega) (by simp)
      have HRF : Hid (∀ w', Ch [] wr w' → w'.rangeAt w.heap.size 0 (rulC fzU)) := fun w' c => (BA.ch c (by simp)).range
      have hi0 : (0 : Int) ≤ k := by omega
      have hi1 : (k : Int) < (n : Int) + 3 := by omega
      clear hr1 hb1 H1
      generalize rulC fzU = cs at HR1 HRF hq HI BA
      go_upto_region 7 with fail
      refine wp_region_quietA (wr) (by kernel_rfl) (by kernel_rfl) (Ch.refl _ _) ?_
      repeat (first
        | (go_big_quiet_want; refine quiet_rowA 58 _ rfl w.heap.size 0 rfl cs _ HRF.out Tryz.underlying58 rfl HI.out ?_; simp only [Act.put, List.setIfInBounds_toArray, List.set_cons_succ, List.set_cons_zero]; go_big_quiet_on)
        | (go_big_quiet_want; refine quiet_rowA 58 _ rfl b1 (off1 + k * 22) rfl cs _ HR1.out Tryz.underlying58 rfl HI.out ?_; simp only [Act.put, List.setIfInBounds_toArray, List.set_cons_succ, List.set_cons_zero]; go_big_quiet_on)
        | go_big_quiet_step (fail))
      refine wpQuiet_nil ?_
      intro wq hwq
      go_wp2_with fail
      go_roundw
      case rel => exact ⟨k + 1, by omega, by omega, by go_num, BA.ch hwq (by simp), CC.trans hwq⟩
      case measure => simp [intOf]; omega
    · obtain rfl : k = n + 3 := by omega
      go_wp2_with fail
      go_ret
      exact ⟨rfl, CC⟩
end Go.Proofs.YtbmbnibamhgfmaaGreatDoor
