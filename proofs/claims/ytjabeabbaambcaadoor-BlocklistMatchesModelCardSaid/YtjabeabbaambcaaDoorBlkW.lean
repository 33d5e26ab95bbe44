/- blocklist.Index, Contains. -/
import Derived.Test.YtjabeabbaambcaaDoorBlkR
import Derived.Test.YtjabeabbaambcaaDoorLists
namespace Go.Proofs.YtjabeabbaambcaaDoor
open Go.RowKit

theorem idxFn (p : Pfx) (hp : GoodA p.2.1) (six : Bool) (bs : List Int) (hg : GoodA bs) (r : Nat) (w : World) (hB : Blk w r 29 (addrC six bs)) :
    Calls Tryd.prog 68 #[.agg (pfxC p).toArray, .pointer (some ⟨r, 0, none⟩)] w fun e w' => e = .returned (.bool (contP p six bs)) ∧ Ch [] w w' := by
  have hB1 : Blk (w.alloc (.cells (pfxC p).toArray 49)) w.heap.size 49 (pfxC p) := Blk.new w _ _
  have hB2 := hB.alloc (.cells (pfxC p).toArray 49)
  have hC : Ch [] w (w.alloc (.cells (pfxC p).toArray 49)) := (Ch.refl _ _).alloc _
  have HI := hid (addr_inf (six := six) hg.1)
  have HIP := hid (pfx_inf (p := p) hp.1)
  have HC := hid (contPfx p.1 p.2.1 p.2.2 hp six bs hg)
  have HC2 : Hid (∀ w, Calls Tryd.prog 69 #[.agg (pfxC p).toArray, .agg (addrC six bs).toArray] w fun e w' => e = .returned (.bool (contP p six bs)) ∧ Ch [] w w') := HC
  obtain ⟨cs, hcs⟩ : ∃ cs, pfxC p = cs := ⟨_, rfl⟩
  obtain ⟨vs, hvs⟩ : ∃ vs, addrC six bs = vs := ⟨_, rfl⟩
  obtain ⟨V, hV⟩ : ∃ V, contP p six bs = V := ⟨_, rfl⟩
  rw [hcs, hvs, hV] at HC2
  rw [hcs] at hB1 hB2 hC HIP ⊢
  rw [hvs] at hB2 HI
  rw [hV]
  clear hcs hvs hV HC hB
  go_enter Tryd.func68, Tryd.ntmps68
  go_wp2_with (first
    | (refine wpList_loadB rfl 49 _ rfl w.heap.size 49 cs _ rfl hB1 Tryd.underlying49 rfl HIP.out ?_)
    | (refine wpList_loadB rfl 29 _ rfl r 29 vs _ rfl hB2 Tryd.underlying29 rfl HI.out ?_)
    | (go_at_call 69; (with_reducible refine (HC2.out _).mono ?_); rintro e w2 ⟨rfl, C2⟩))
  go_ret
  exact ⟨rfl, hC.trans C2⟩

set_option maxRecDepth 20000 in
set_option maxHeartbeats 4000000 in
theorem idxFunc (six : Bool) (bs : List Int) (hg : GoodA bs) (r g : Nat) (w : World) (hB : Blk w r 29 (addrC six bs)) (hgw : g < w.heap.size)
    (hrow : ∀ (k : Nat) (p : Pfx), blkT[k]? = some p → w.rangeAt g (k * 18) (pfxC p)) (c : Nat) :
    Calls Tryd.prog 67 #[.slice (some ⟨g, 0, none⟩) 15 c, .func (.func 68) #[] #[.pointer (some ⟨r, 0, none⟩)]] w fun e w' => e = .returned (.int .i64 (idxP six bs blkT 0)) ∧ Ch [] w w' := by
  have HROW := hid hrow
  clear hrow
  go_enter Tryd.func67, Tryd.ntmps67
  go_wp2_with fail
  go_loopw [5, 8] (fun _ i wr => ∃ k : Nat, k ≤ 15 ∧ i = .int .i64 k ∧ Hid (∀ (j : Nat) (x : Pfx), j < k → blkT[j]? = some x → contP x six bs = false) ∧ Ch [] w wr) (fun _ i _ => 15 - (intOf i).toNat)
  case atStart => exact ⟨0, by omega, rfl, fun j x hj => absurd hj (by omega), Ch.refl _ _⟩
  case round =>
    obtain ⟨k, hk, rfl, HN, CR⟩ := hrel
    by_cases hlt : k < 15
    · obtain ⟨p, hp⟩ : ∃ p, blkT[k]? = some p := ⟨blkT[k]'(by rw [blk_len]; omega), List.getElem?_eq_getElem (by rw [blk_len]; omega)⟩
      have hgp : GoodA p.2.1 := blk_good p (List.mem_of_getElem? hp)
      have HP := hid hp
      have HRP : Hid (wr.rangeAt g (k * 18) (pfxC p)) := fun j v hv => (CR.cell (p := ⟨g, k * 18 + j, none⟩) hgw (by simp)).trans (HROW.out k p hp j v hv)
      have HIP := hid (pfx_inf (p := p) hgp.1)
      have HC := hid (fun w hB => idxFn p hgp six bs hg r w hB)
      have hBr := hB.ch CR (by simp)
      clear hp hgp
      have hi0 : (0 : Int) ≤ k := by omega
      have hi1 : (k : Int) < 15 := by omega
      cases hcp : contP p six bs with
      | true =>
        rw [hcp] at HC
        have HH := hid (idx_hit blkT 0 k HN.out HP.out hcp)
        clear hcp
        obtain ⟨cs, hcs⟩ : ∃ cs, pfxC p = cs := ⟨_, rfl⟩
        rw [hcs] at HRP HIP HC
        clear hcs
        go_wp2_with (first
          | (refine wpList_load_want rfl 49 _ rfl g (k * 18) rfl cs _ HRP.out Tryd.underlying49 rfl HIP.out ?_)
          | (go_at_call 68; (with_reducible refine (HC.out _ hBr).mono ?_); rintro e w2 ⟨rfl, C2⟩))
        go_ret
        refine ⟨by (rw [HH.out, Nat.zero_add]) <;> rfl, CR.trans C2⟩
      | false =>
        rw [hcp] at HC
        have HN2 : Hid (∀ (j : Nat) (x : Pfx), j < k + 1 → blkT[j]? = some x → contP x six bs = false) := fun j x hj hx => by
          by_cases e : j = k
          · subst e
            rw [HP.out] at hx
            obtain rfl := Option.some.inj hx
            exact hcp
          · exact HN.out j x (by omega) hx
        clear hcp
        obtain ⟨cs, hcs⟩ : ∃ cs, pfxC p = cs := ⟨_, rfl⟩
        rw [hcs] at HRP HIP HC
        clear hcs
        go_wp2_with (first
          | (refine wpList_load_want rfl 49 _ rfl g (k * 18) rfl cs _ HRP.out Tryd.underlying49 rfl HIP.out ?_)
          | (go_at_call 68; (with_reducible refine (HC.out _ hBr).mono ?_); rintro e w2 ⟨rfl, C2⟩))
        go_roundw
        case rel => exact ⟨k + 1, by omega, by go_num, HN2, CR.trans C2⟩
        case measure => simp [intOf]; omega
    · obtain rfl : k = 15 := by omega
      have HH := hid (idx_miss (six := six) (a := bs) blkT 0 (fun j x hx => HN.out j x (by have := (List.getElem?_eq_some_iff.1 hx).1; rw [blk_len] at this; exact this) hx))
      go_wp2_with fail
      go_ret
      exact ⟨by (rw [HH.out]) <;> rfl, CR⟩

set_option maxRecDepth 20000 in
set_option maxHeartbeats 4000000 in
theorem blkIdx (six : Bool) (bs : List Int) (hg : GoodA bs) (w : World) : Calls Tryd.prog 27 #[.agg (addrC six bs).toArray] w fun e w' => e = .returned (.int .i64 (idxP six bs blkT 0)) ∧ Ch [] w w' := by
  have hB0 : Blk (w.alloc (.cells (addrC six bs).toArray 29)) w.heap.size 29 (addrC six bs) := Blk.new w _ _
  have hC0 : Ch [] w (w.alloc (.cells (addrC six bs).toArray 29)) := (Ch.refl _ _).alloc _
  have HF := hid (fun r g w hB hgw hrow c => idxFunc six bs hg r g w hB hgw hrow c)
  obtain ⟨vs, hvs⟩ : ∃ vs, (addrC six bs).toArray = vs := ⟨_, rfl⟩
  rw [hvs] at hB0 hC0 ⊢
  clear hvs
  go_enter Tryd.func27, Tryd.ntmps27
  go_wp2_with (first
    | (go_at_call 32; (with_reducible refine (pfxList _).mono ?_); rintro e w2 ⟨A, rfl, own, C2⟩; have B2 := hB0.ch C2 (by simp); have CC2 := hC0.trans C2; obtain ⟨g, rfl, hg0, hg1⟩ := own.form (by decide))
    | (go_at_call 67; (with_reducible refine (HF.out _ _ _ B2 hg1 (own_rows own) _).mono ?_); rintro e w3 ⟨rfl, C3⟩))
  go_ret
  exact ⟨rfl, CC2.trans C3⟩

set_option maxRecDepth 20000 in
set_option maxHeartbeats 4000000 in
theorem blkCont (six : Bool) (bs : List Int) (hg : GoodA bs) (w : World) : Calls Tryd.prog 29 #[.agg (addrC six bs).toArray] w fun e w' => e = .returned (.bool (decide (0 ≤ idxP six bs blkT 0) || !validA six bs)) ∧ Ch [] w w' := by
  have hB0 : Blk (w.alloc (.cells (addrC six bs).toArray 29)) w.heap.size 29 (addrC six bs) := Blk.new w _ _
  have hC0 : Ch [] w (w.alloc (.cells (addrC six bs).toArray 29)) := (Ch.refl _ _).alloc _
  have HX := hid (blkIdx six bs hg)
  have HV := hid (ipValid six bs hg.1 hg.2)
  have HI := hid (addr_inf (six := six) hg.1)
  obtain ⟨vs, hvs⟩ : ∃ vs, addrC six bs = vs := ⟨_, rfl⟩
  rw [hvs] at hB0 hC0 HX HV HI ⊢
  clear hvs
  generalize idxP six bs blkT 0 = x at HX ⊢
  generalize validA six bs = v at HV ⊢
  by_cases hx : 0 ≤ x
  · have hd : decide (0 ≤ x) = true := by simpa using hx
    rw [hd]
    go_enter Tryd.func29, Tryd.ntmps29
    go_wp2_with (first
      | (refine wpList_loadB rfl 29 _ rfl w.heap.size 29 vs _ rfl hB0 Tryd.underlying29 rfl HI.out ?_)
      | (go_at_call 27; (with_reducible refine (HX.out _).mono ?_); rintro e w2 ⟨rfl, C2⟩))
    go_ret
    exact ⟨rfl, hC0.trans C2⟩
  · have hd : decide (0 ≤ x) = false := by simpa using hx
    rw [hd]
    go_enter Tryd.func29, Tryd.ntmps29
    go_wp2_with (first
      | (refine wpList_loadB rfl 29 _ rfl w.heap.size 29 vs _ rfl hB0 Tryd.underlying29 rfl HI.out ?_)
      | (refine wpList_load_want rfl 29 _ rfl w.heap.size 0 rfl vs _ (hB0.ch C2 (by simp)).range Tryd.underlying29 rfl HI.out ?_)
      | (go_at_call 27; (with_reducible refine (HX.out _).mono ?_); rintro e w2 ⟨rfl, C2⟩)
      | (go_at_call 58; (with_reducible refine (HV.out _).mono ?_); rintro e w3 ⟨rfl, C3⟩))
    go_ret
    exact ⟨by cases v <;> rfl, (hC0.trans C2).trans C3⟩
end Go.Proofs.YtjabeabbaambcaaDoor
