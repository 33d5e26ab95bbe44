/- cidr.Contains. -/
import Derived.Test.YtjabeabbaambcaaDoorCidr3
namespace Go.Proofs.YtjabeabbaambcaaDoor
open Go.RowKit

set_option maxRecDepth 20000 in
set_option maxHeartbeats 4000000 in
theorem contPfx (six : Bool) (bs : List Int) (n : Int) (hg : GoodA bs) (s6 : Bool) (av : List Int) (ha : GoodA av) (w : World) :
    Calls Tryd.prog 69 #[.agg (pfxC (six, bs, n)).toArray, .agg (addrC s6 av).toArray] w fun e w' => e = .returned (.bool (contP (six, bs, n) s6 av)) ∧ Ch [] w w' := by
  have hC0 : Ch [] w ((w.alloc (.cells (pfxC (six, bs, n)).toArray 49)).alloc (.cells (addrC s6 av).toArray 29)) := ((Ch.refl _ _).alloc _).alloc _
  have hB : Blk ((w.alloc (.cells (pfxC (six, bs, n)).toArray 49)).alloc (.cells (addrC s6 av).toArray 29)) w.heap.size 49 (pfxC (six, bs, n)) := (Blk.new w _ _).alloc _
  have hB2 : Blk ((w.alloc (.cells (pfxC (six, bs, n)).toArray 49)).alloc (.cells (addrC s6 av).toArray 29)) (w.heap.size + 1) 29 (addrC s6 av) := Blk.newAt _ _ _ (by simp)
  have HVP := hid (validPfx six bs n hg)
  have HVA := hid (ipValid s6 av ha.1 ha.2)
  have HTR := hid (fun h0 h1 => truncP s6 av ha n h0 h1)
  have HEQ := fun w => addr_eq s6 six (truncL av n) bs (trunc_good ha n).1 hg.1 w
  have HI := hid (addr_inf (six := six) hg.1)
  have HIV := hid (addr_inf (six := s6) ha.1)
  have HIP := hid (pfx_inf (p := (six, bs, n)) hg.1)
  have HRP : Hid (∀ w', Ch [] ((w.alloc (.cells (pfxC (six, bs, n)).toArray 49)).alloc (.cells (addrC s6 av).toArray 29)) w' → w'.rangeAt w.heap.size 0 (pfxC (six, bs, n))) := fun w' h => (hB.ch h (by simp)).range
  have HRB : Hid (∀ w', Ch [] ((w.alloc (.cells (pfxC (six, bs, n)).toArray 49)).alloc (.cells (addrC s6 av).toArray 29)) w' → w'.rangeAt w.heap.size 0 (addrC six bs)) := fun w' h => (hB.ch h (by simp)).rangeMid 0 _ (fun j v hj => pfx_addr (p := (six, bs, n)) hj)
  have HRV : Hid (∀ w', Ch [] ((w.alloc (.cells (pfxC (six, bs, n)).toArray 49)).alloc (.cells (addrC s6 av).toArray 29)) w' → w'.rangeAt (w.heap.size + 1) 0 (addrC s6 av)) := fun w' h => (hB2.ch h (by simp)).range
  have h17 : ∀ x : After ((w.alloc (.cells (pfxC (six, bs, n)).toArray 49)).alloc (.cells (addrC s6 av).toArray 29)), x.w.cell? ⟨w.heap.size, 17, none⟩ = some (.int .i64 n) := fun x => ((hB.ch x.ch (by simp)).cell 17).trans (pfx_bits (p := (six, bs, n)) hg.1)
  have h00 : ∀ x : After ((w.alloc (.cells (pfxC (six, bs, n)).toArray 49)).alloc (.cells (addrC s6 av).toArray 29)), x.w.cell? ⟨w.heap.size, 0, none⟩ = some (.bool six) := fun x => (hB.ch x.ch (by simp)).cell 0
  have h10 : ∀ x : After ((w.alloc (.cells (pfxC (six, bs, n)).toArray 49)).alloc (.cells (addrC s6 av).toArray 29)), x.w.cell? ⟨w.heap.size + 1, 0, none⟩ = some (.bool s6) := fun x => (hB2.ch x.ch (by simp)).cell 0
  have hL : bitL six ≤ 128 := by cases six <;> decide
  obtain ⟨V, hV⟩ : ∃ V, contP (six, bs, n) s6 av = V := ⟨_, rfl⟩
  rw [hV]
  unfold contP at hV
  have hvn : validP (six, bs, n) = true → 0 ≤ n ∧ n ≤ 128 := by
    intro h
    simp only [validP, Bool.and_eq_true, decide_eq_true_eq] at h
    exact ⟨h.1.1.2, by have := h.1.2; omega⟩
  obtain ⟨cs, hcs⟩ : ∃ cs, pfxC (six, bs, n) = cs := ⟨_, rfl⟩
  obtain ⟨vs, hvs⟩ : ∃ vs, addrC s6 av = vs := ⟨_, rfl⟩
  rw [hcs, hvs] at hC0 HRP HRB HRV h17 h00 h10
  rw [hcs] at HIP HVP
  rw [hvs] at HVA HIV HTR
  rw [hcs, hvs]
  clear hB hB2 hcs hvs
  cases hvp : validP (six, bs, n) with
  | false =>
    rw [hvp] at HVP hV
    obtain rfl : V = false := by rw [← hV]; rfl
    go_enter Tryd.func69, Tryd.ntmps69
    go_wp2_with fail
    refine wp_region_quietA ((w.alloc (.cells cs.toArray 49)).alloc (.cells vs.toArray 29)) (by kernel_rfl) (by kernel_rfl) (Ch.refl _ _) ?_
    repeat (first
      | (go_big_quiet_want; refine quiet_rowA 49 _ rfl w.heap.size 0 rfl cs _ HRP.out Tryd.underlying49 rfl HIP.out ?_; simp only [Act.put, List.setIfInBounds_toArray, List.set_cons_succ, List.set_cons_zero]; go_big_quiet_on)
      | (go_big_quiet_want; refine quiet_rowA 29 _ rfl w.heap.size 0 rfl (addrC six bs) _ HRB.out Tryd.underlying29 rfl HI.out ?_; simp only [Act.put, List.setIfInBounds_toArray, List.set_cons_succ, List.set_cons_zero]; go_big_quiet_on)
      | (go_big_quiet_want; refine quiet_rowA 29 _ rfl (w.heap.size + 1) 0 rfl vs _ HRV.out Tryd.underlying29 rfl HIV.out ?_; simp only [Act.put, List.setIfInBounds_toArray, List.set_cons_succ, List.set_cons_zero]; go_big_quiet_on)
      | go_big_quiet_step (first
        | (go_at_call 90; exact after_of (HVP.out _))
        | (go_at_call 58; exact after_of (HVA.out _))
        | (go_at_call 91; exact after_of (HT.out _))))
    refine wpQuiet_nil ?_
    intro wq hwq
    go_wp2_with fail
    go_ret
    exact ⟨rfl, hC0.trans hwq⟩
  | true =>
    have hvn := hvn hvp
    rw [hvp] at HVP hV
    cases hva : validA s6 av with
    | false =>
      rw [hva] at HVA hV
      obtain rfl : V = false := by rw [← hV]; rfl
      go_enter Tryd.func69, Tryd.ntmps69
      go_wp2_with fail
      refine wp_region_quietA ((w.alloc (.cells cs.toArray 49)).alloc (.cells vs.toArray 29)) (by kernel_rfl) (by kernel_rfl) (Ch.refl _ _) ?_
      repeat (first
        | (go_big_quiet_want; refine quiet_rowA 49 _ rfl w.heap.size 0 rfl cs _ HRP.out Tryd.underlying49 rfl HIP.out ?_; simp only [Act.put, List.setIfInBounds_toArray, List.set_cons_succ, List.set_cons_zero]; go_big_quiet_on)
        | (go_big_quiet_want; refine quiet_rowA 29 _ rfl w.heap.size 0 rfl (addrC six bs) _ HRB.out Tryd.underlying29 rfl HI.out ?_; simp only [Act.put, List.setIfInBounds_toArray, List.set_cons_succ, List.set_cons_zero]; go_big_quiet_on)
        | (go_big_quiet_want; refine quiet_rowA 29 _ rfl (w.heap.size + 1) 0 rfl vs _ HRV.out Tryd.underlying29 rfl HIV.out ?_; simp only [Act.put, List.setIfInBounds_toArray, List.set_cons_succ, List.set_cons_zero]; go_big_quiet_on)
        | go_big_quiet_step (first
          | (go_at_call 90; exact after_of (HVP.out _))
          | (go_at_call 58; exact after_of (HVA.out _))
          | (go_at_call 91; exact after_of (HT.out _))))
      refine wpQuiet_nil ?_
      intro wq hwq
      go_wp2_with fail
      go_ret
      exact ⟨rfl, hC0.trans hwq⟩
    | true =>
      rw [hva] at HVA hV
      have HT := hid (HTR.out hvn.1 hvn.2)
      by_cases h6 : six = s6
      case neg =>
        have h6b : (six == s6) = false := by simpa using h6
        obtain rfl : V = false := by rw [← hV]; simp [h6b]
        obtain rfl | rfl := Bool.eq_false_or_eq_true six
        all_goals obtain rfl | rfl := Bool.eq_false_or_eq_true s6
        all_goals first | (exact absurd rfl h6) | skip
        all_goals
          go_enter Tryd.func69, Tryd.ntmps69
          go_wp2_with fail
          refine wp_region_quietA ((w.alloc (.cells cs.toArray 49)).alloc (.cells vs.toArray 29)) (by kernel_rfl) (by kernel_rfl) (Ch.refl _ _) ?_
          repeat (first
            | (go_big_quiet_want; refine quiet_rowA 49 _ rfl w.heap.size 0 rfl cs _ HRP.out Tryd.underlying49 rfl HIP.out ?_; simp only [Act.put, List.setIfInBounds_toArray, List.set_cons_succ, List.set_cons_zero]; go_big_quiet_on)
            | (go_big_quiet_want; refine quiet_rowA 29 _ rfl w.heap.size 0 rfl (addrC six bs) _ HRB.out Tryd.underlying29 rfl HI.out ?_; simp only [Act.put, List.setIfInBounds_toArray, List.set_cons_succ, List.set_cons_zero]; go_big_quiet_on)
            | (go_big_quiet_want; refine quiet_rowA 29 _ rfl (w.heap.size + 1) 0 rfl vs _ HRV.out Tryd.underlying29 rfl HIV.out ?_; simp only [Act.put, List.setIfInBounds_toArray, List.set_cons_succ, List.set_cons_zero]; go_big_quiet_on)
            | go_big_quiet_step (first
              | (go_at_call 90; exact after_of (HVP.out _))
              | (go_at_call 58; exact after_of (HVA.out _))
              | (go_at_call 91; exact after_of (HT.out _))))
          refine wpQuiet_nil ?_
          intro wq hwq
          go_wp2_with fail
          go_ret
          exact ⟨rfl, hC0.trans hwq⟩
      subst h6
      have hVd : decide (truncL av n = bs) = V := by rw [← hV]; simp
      simp only [beq_self_eq_true, Bool.true_and, hVd] at HEQ
      go_enter Tryd.func69, Tryd.ntmps69
      go_wp2_with fail
      refine wp_region_quietA ((w.alloc (.cells cs.toArray 49)).alloc (.cells vs.toArray 29)) (by kernel_rfl) (by kernel_rfl) (Ch.refl _ _) ?_
      repeat (first
        | (go_big_quiet_want; refine quiet_rowA 49 _ rfl w.heap.size 0 rfl cs _ HRP.out Tryd.underlying49 rfl HIP.out ?_; simp only [Act.put, List.setIfInBounds_toArray, List.set_cons_succ, List.set_cons_zero]; go_big_quiet_on)
        | (go_big_quiet_want; refine quiet_rowA 29 _ rfl w.heap.size 0 rfl (addrC six bs) _ HRB.out Tryd.underlying29 rfl HI.out ?_; simp only [Act.put, List.setIfInBounds_toArray, List.set_cons_succ, List.set_cons_zero]; go_big_quiet_on)
        | (go_big_quiet_want; refine quiet_rowA 29 _ rfl (w.heap.size + 1) 0 rfl vs _ HRV.out Tryd.underlying29 rfl HIV.out ?_; simp only [Act.put, List.setIfInBounds_toArray, List.set_cons_succ, List.set_cons_zero]; go_big_quiet_on)
        | go_big_quiet_step (first
          | (go_at_call 90; exact after_of (HVP.out _))
          | (go_at_call 58; exact after_of (HVA.out _))
          | (go_at_call 91; exact after_of (HT.out _))))
      refine wpQuiet_nil ?_
      intro wq hwq
      go_wp2_with fail
      go_ret
      exact ⟨rfl, hC0.trans hwq⟩
end Go.Proofs.YtjabeabbaambcaaDoor
