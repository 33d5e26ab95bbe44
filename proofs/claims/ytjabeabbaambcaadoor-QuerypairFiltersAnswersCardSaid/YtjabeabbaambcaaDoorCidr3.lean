/- cidr.Valid, cidr.Contains. -/
import Derived.Test.YtjabeabbaambcaaDoorCidr2
import Derived.Test.YtjabeabbaambcaaDoorQuietC
namespace Go.Proofs.YtjabeabbaambcaaDoor
open Go.RowKit

theorem pfx_len {p : Pfx} (h : p.2.1.length = 16) : (pfxC p).length = 18 := by unfold pfxC; rw [List.length_append, addr_len h]; rfl
theorem pfx_info : (Tryd.prog.info? 49).map (·.size) = some 18 := by kernel_rfl
theorem pfx_inf {p : Pfx} (h : p.2.1.length = 16) : (Tryd.prog.info? 49).map (·.size) = some (pfxC p).length := by rw [pfx_len h]; exact pfx_info
theorem pfx_bits {p : Pfx} (h : p.2.1.length = 16) : (pfxC p)[17]? = some (.int .i64 p.2.2) := by
  unfold pfxC
  rw [List.getElem?_append_right (by rw [addr_len h]; omega), addr_len h]; rfl
theorem pfx_addr {p : Pfx} {j : Nat} {v : Value} (hj : (addrC p.1 p.2.1)[j]? = some v) : (pfxC p)[0 + j]? = some v := by
  unfold pfxC
  rw [Nat.zero_add, List.getElem?_append_left (List.getElem?_eq_some_iff.1 hj).1]
  exact hj
theorem pfx_one (p : Pfx) : (pfxC p).all (·.oneCell') = true := by
  unfold pfxC
  rw [List.all_append, addr_one']
  rfl

set_option maxRecDepth 20000 in
set_option maxHeartbeats 4000000 in
theorem validPfx (six : Bool) (bs : List Int) (n : Int) (hg : GoodA bs) (w : World) :
    Calls Tryd.prog 90 #[.agg (pfxC (six, bs, n)).toArray] w fun e w' => e = .returned (.bool (validP (six, bs, n))) ∧ Ch [] w w' := by
  have hC0 : Ch [] w (w.alloc (.cells (pfxC (six, bs, n)).toArray 49)) := (Ch.refl _ _).alloc _
  have hB : Blk (w.alloc (.cells (pfxC (six, bs, n)).toArray 49)) w.heap.size 49 (pfxC (six, bs, n)) := Blk.new w _ _
  have HBL := hid (bitLenP six bs)
  have HIV := hid (ipValid six bs hg.1 hg.2)
  have HTR := hid (fun h0 h1 => truncP six bs hg n h0 h1)
  have HEQ := fun w => addr_eq six six (truncL bs n) bs (trunc_good hg n).1 hg.1 w
  have HI := hid (addr_inf (six := six) hg.1)
  have h17 := pfx_bits (p := (six, bs, n)) hg.1
  have hr : ∀ w', Ch [] (w.alloc (.cells (pfxC (six, bs, n)).toArray 49)) w' → w'.rangeAt w.heap.size 0 (addrC six bs) := fun w' h => (hB.ch h (by simp)).rangeMid 0 _ (fun j v hj => pfx_addr (p := (six, bs, n)) hj)
  have hc : ∀ w', Ch [] (w.alloc (.cells (pfxC (six, bs, n)).toArray 49)) w' → w'.cell? ⟨w.heap.size, 17, none⟩ = some (.int .i64 n) := fun w' h => ((hB.ch h (by simp)).cell 17).trans h17
  have HR := hid hr
  have hcA : ∀ x : After (w.alloc (.cells (pfxC (six, bs, n)).toArray 49)), x.w.cell? ⟨w.heap.size, 17, none⟩ = some (.int .i64 n) := fun x => hc _ x.ch
  have hL : bitL six ≤ 128 := by cases six <;> decide
  obtain ⟨V, hV⟩ : ∃ V, validP (six, bs, n) = V := ⟨_, rfl⟩
  rw [hV]
  unfold validP at hV
  generalize pfxC (six, bs, n) = cs at hC0 HR hcA ⊢
  clear hB hr hc h17
  cases hva : validA six bs with
  | false =>
    rw [hva] at HIV hV
    obtain rfl : V = false := by rw [← hV]; rfl
    go_enter Tryd.func90, Tryd.ntmps90
    go_wp2_with fail
    refine wp_region_quietA (w.alloc (.cells cs.toArray 49)) (by kernel_rfl) (by kernel_rfl) (Ch.refl _ _) ?_
    repeat (first
      | (go_big_quiet_want; refine quiet_rowA 29 _ rfl w.heap.size 0 rfl (addrC six bs) _ HR.out Tryd.underlying29 rfl HI.out ?_; simp only [Act.put, List.setIfInBounds_toArray, List.set_cons_succ, List.set_cons_zero]; go_big_quiet_on)
      | go_big_quiet_step (first
        | (go_at_call 58; exact after_of (HIV.out _))))
    refine wpQuiet_nil ?_
    intro wq hwq

    go_wp2_with fail
    go_ret
    exact ⟨rfl, hC0.trans hwq⟩
  | true =>
    rw [hva] at HIV hV
    by_cases h0 : 0 ≤ n
    case neg =>
      obtain rfl : V = false := by rw [← hV]; simp [h0]
      have hd0 : decide (0 ≤ n) = false := by simpa using h0
      go_enter Tryd.func90, Tryd.ntmps90
      go_wp2_with fail
      refine wp_region_quietA (w.alloc (.cells cs.toArray 49)) (by kernel_rfl) (by kernel_rfl) (Ch.refl _ _) ?_
      repeat (first
        | (go_big_quiet_want; refine quiet_rowA 29 _ rfl w.heap.size 0 rfl (addrC six bs) _ HR.out Tryd.underlying29 rfl HI.out ?_; simp only [Act.put, List.setIfInBounds_toArray, List.set_cons_succ, List.set_cons_zero]; go_big_quiet_on)
        | go_big_quiet_step (first
          | (go_at_call 58; exact after_of (HIV.out _))))
      refine wpQuiet_nil ?_
      intro wq hwq

      go_wp2_with fail
      go_ret
      exact ⟨rfl, hC0.trans hwq⟩
    have hd0 : decide (0 ≤ n) = true := by simpa using h0
    by_cases h1 : n ≤ bitL six
    case neg =>
      obtain rfl : V = false := by rw [← hV]; simp [h1]
      have hd1 : decide (n ≤ bitL six) = false := by simpa using h1
      go_enter Tryd.func90, Tryd.ntmps90
      go_wp2_with fail
      refine wp_region_quietA (w.alloc (.cells cs.toArray 49)) (by kernel_rfl) (by kernel_rfl) (Ch.refl _ _) ?_
      repeat (first
        | (go_big_quiet_want; refine quiet_rowA 29 _ rfl w.heap.size 0 rfl (addrC six bs) _ HR.out Tryd.underlying29 rfl HI.out ?_; simp only [Act.put, List.setIfInBounds_toArray, List.set_cons_succ, List.set_cons_zero]; go_big_quiet_on)
        | go_big_quiet_step (first
          | (go_at_call 58; exact after_of (HIV.out _))
          | (go_at_call 105; exact after_of (HBL.out _))))
      refine wpQuiet_nil ?_
      intro wq hwq

      go_wp2_with fail
      go_ret
      exact ⟨rfl, hC0.trans hwq⟩
    have HT2 := hid (HTR.out h0 (by omega))
    have hd1 : decide (n ≤ bitL six) = true := by simpa using h1
    have hVd : decide (truncL bs n = bs) = V := by rw [← hV]; simp [h0, h1]
    simp only [beq_self_eq_true, Bool.true_and, hVd] at HEQ
    go_enter Tryd.func90, Tryd.ntmps90
    go_wp2_with fail
    refine wp_region_quietA (w.alloc (.cells cs.toArray 49)) (by kernel_rfl) (by kernel_rfl) (Ch.refl _ _) ?_
    repeat (first
      | (go_big_quiet_want; refine quiet_rowA 29 _ rfl w.heap.size 0 rfl (addrC six bs) _ HR.out Tryd.underlying29 rfl HI.out ?_; simp only [Act.put, List.setIfInBounds_toArray, List.set_cons_succ, List.set_cons_zero]; go_big_quiet_on)
      | go_big_quiet_step (first
        | (go_at_call 58; exact after_of (HIV.out _))
        | (go_at_call 105; exact after_of (HBL.out _))
        | (go_at_call 91; exact after_of (HT2.out _))))
    refine wpQuiet_nil ?_
    intro wq hwq

    go_wp2_with fail
    go_ret
    exact ⟨rfl, hC0.trans hwq⟩
end Go.Proofs.YtjabeabbaambcaaDoor
