/- ginnelref07.BlockedPrefixes, BlockedIndex. -/
import Derived.Test.YtjabeabbaambcaaDoorPfxI
import Derived.Test.YtjabeabbaambcaaDoorPPfx
namespace Go.Proofs.YtjabeabbaambcaaDoor
open Go.RowKit

theorem idx_hit {six : Bool} {a : List Int} {p : Pfx} : ∀ (l : List Pfx) (i k : Nat), (∀ j x, j < k → l[j]? = some x → contP x six a = false) → l[k]? = some p → contP p six a = true → idxP six a l i = (i + k : Nat)
  | [], _, _, _, h, _ => by simp at h
  | y :: l, i, 0, _, h, hc => by
    obtain rfl : y = p := by simpa using h
    rw [idxP, if_pos hc]; rfl
  | y :: l, i, k + 1, hn, h, hc => by
    have h0 := hn 0 y (by omega) rfl
    rw [idxP, h0, if_neg (by decide), idx_hit l (i + 1) k (fun j x hj hx => hn (j + 1) x (by omega) (by simpa using hx)) (by simpa using h) hc]
    congr 1; omega
theorem idx_miss {six : Bool} {a : List Int} : ∀ (l : List Pfx) (i : Nat), (∀ (j : Nat) (x : Pfx), l[j]? = some x → contP x six a = false) → idxP six a l i = -1
  | [], _, _ => rfl
  | y :: l, i, hn => by
    have h0 := hn 0 y rfl
    rw [idxP, h0, if_neg (by decide)]
    exact idx_miss l (i + 1) fun j x hx => hn (j + 1) x (by simpa using hx)
theorem own_rows {w : World} {B g c : Nat} {e : TypeId} (own : Own w B e 18 (some ⟨g, 0, none⟩) 15 c (blkT.flatMap pfxC)) (k : Nat) (p : Pfx) (hp : blkT[k]? = some p) : w.rangeAt g (k * 18) (pfxC p) := by
  intro j v hv
  obtain ⟨b, off, he, hb, hc⟩ := own.rd.2 (by decide)
  simp only [Option.some.injEq, Addr.mk.injEq] at he
  obtain ⟨rfl, rfl, _⟩ := he
  have := hc _ v (flat_get (f := pfxC) (size := 18) blkT blk_len18 k p hp j v hv)
  rwa [Nat.zero_add] at this

def blkS : List ByteArray := [⟨#[48, 46, 48, 46, 48, 46, 48, 47, 56]⟩, ⟨#[49, 48, 46, 48, 46, 48, 46, 48, 47, 56]⟩, ⟨#[49, 48, 48, 46, 54, 52, 46, 48, 46, 48, 47, 49, 48]⟩, ⟨#[49, 50, 55, 46, 48, 46, 48, 46, 48, 47, 56]⟩, ⟨#[49, 54, 57, 46, 50, 53, 52, 46, 48, 46, 48, 47, 49, 54]⟩, ⟨#[49, 55, 50, 46, 49, 54, 46, 48, 46, 48, 47, 49, 50]⟩, ⟨#[49, 57, 50, 46, 49, 54, 56, 46, 48, 46, 48, 47, 49, 54]⟩, ⟨#[50, 50, 52, 46, 48, 46, 48, 46, 48, 47, 51]⟩, ⟨#[58, 58, 47, 49, 50, 56]⟩, ⟨#[58, 58, 49, 47, 49, 50, 56]⟩, ⟨#[58, 58, 102, 102, 102, 102, 58, 48, 58, 48, 47, 57, 54]⟩, ⟨#[54, 52, 58, 102, 102, 57, 98, 58, 58, 47, 57, 54]⟩, ⟨#[102, 99, 48, 48, 58, 58, 47, 55]⟩, ⟨#[102, 101, 56, 48, 58, 58, 47, 49, 48]⟩, ⟨#[102, 102, 48, 48, 58, 58, 47, 56]⟩]
theorem blkS_pref : (blkS.map fun s => prefT (numsOf s)) = blkT.map some := by decide +kernel
theorem blkS_small : ∀ s ∈ blkS, s.size ≤ 1000000 := by decide +kernel
theorem blk_at (k : Nat) (hk : k < 15) : ∃ s p, blkS[k]? = some s ∧ blkT[k]? = some p ∧ prefT (numsOf s) = some p ∧ s.size ≤ 1000000 ∧ GoodA p.2.1 := by
  have h1 : k < blkS.length := hk
  have h2 : k < blkT.length := hk
  refine ⟨blkS[k], blkT[k], List.getElem?_eq_getElem h1, List.getElem?_eq_getElem h2, ?_, blkS_small _ (List.getElem_mem h1), blk_good _ (List.getElem_mem h2)⟩
  have := congrArg (fun l => l[k]?) blkS_pref
  simp only [List.getElem?_map, List.getElem?_eq_getElem h1, List.getElem?_eq_getElem h2, Option.map_some] at this
  exact Option.some.inj this
set_option maxRecDepth 20000 in
set_option maxHeartbeats 4000000 in
theorem refBlkL (w : World) : Calls Tryd.prog 23 #[] w fun e w' => ∃ A c, e = .returned (.slice A 15 c) ∧ Own w' w.heap.size 49 18 A 15 c (blkT.flatMap pfxC) ∧ Ch [] w w' := by
  have hB0 : Blk (w.alloc (.cells (blkS.map Value.string).toArray 9)) w.heap.size 9 (blkS.map Value.string) := Blk.new w _ _
  have hC0 : Ch [] w (w.alloc (.cells (blkS.map Value.string).toArray 9)) := (Ch.refl _ _).alloc _
  go_enter Tryd.func23, Tryd.ntmps23
  go_wp2_with (refine wpList_buildRows rfl 93 9 15 _ rfl (blkS.map Value.string) _ 1 16 Tryd.underlying93 str_info (by decide) (by decide) (by kernel_rfl) ?_)
  go_loopw [1, 3] (fun o i wr => ∃ (k : Nat) (A : Option Addr) (c : Nat), o = .slice A k c ∧ i = .int .i64 k ∧ k ≤ 15 ∧ Own wr w.heap.size 49 18 A k c ((blkT.take k).flatMap pfxC) ∧ Blk wr w.heap.size 9 (blkS.map Value.string) ∧ (∀ x ∈ blkOf A, x ≠ w.heap.size) ∧ Ch [] w wr) (fun _ i _ => 15 - (intOf i).toNat)
  case atStart => exact ⟨0, none, 0, rfl, rfl, by omega, Own.nil _ _ _ _, hB0, by simp [blkOf], hC0⟩
  case round =>
    clear hB0 hC0
    obtain ⟨k, A, c, rfl, rfl, hk, own, B0, hw0, CC⟩ := hrel
    have hle := CC.size
    have lt0 := B0.lt
    by_cases hlt : k < 15
    · obtain ⟨s, p, hs, hp, hpf, hsm, hgd⟩ := blk_at k hlt
      have hcell : wr.cell? ⟨w.heap.size, k, none⟩ = some (.string s) := by rw [B0.cell, List.getElem?_map, hs]; rfl
      have HPP := hid (refPPfx s p hsm hpf)
      have HTK := hid (take_one hp)
      obtain ⟨six, ps, n⟩ := p
      obtain ⟨b0, b1, b2, b3, b4, b5, b6, b7, b8, b9, b10, b11, b12, b13, b14, b15, rfl⟩ := len16 hgd.1
      have HIP := hid (pfx_inf (p := (six, [b0, b1, b2, b3, b4, b5, b6, b7, b8, b9, b10, b11, b12, b13, b14, b15], n)) rfl)
      clear hs hp hpf hsm hgd
      go_wp2_with (first
        | (at_builtin; (refine wpList_app _ rfl (.tmp 21) (.tmp 23) _ rfl w.heap.size 49 _ 18 32 Tryd.underlying46 pfx_infoZ rfl (by omega) _ _ _ _ rfl (own3.alloc _) _ _ _ _ (pfxC (six, [b0, b1, b2, b3, b4, b5, b6, b7, b8, b9, b10, b11, b12, b13, b14, b15], n)) rfl (Rd.new _ 18 (pfxC (six, [b0, b1, b2, b3, b4, b5, b6, b7, b8, b9, b10, b11, b12, b13, b14, b15], n)) 1 rfl _) (List.all_eq_true.1 (pfx_one _)) (by unfold maxLen; omega) (by omega) (by simp only [World.size_alloc]; omega) ?_; intro A4 c4 w4 own4 ch4 at4))
        | (refine wpList_buildRows rfl 46 49 1 _ rfl (pfxC (six, [b0, b1, b2, b3, b4, b5, b6, b7, b8, b9, b10, b11, b12, b13, b14, b15], n)) _ 18 _ Tryd.underlying46 pfx_infoZ (by decide) (by decide) (by kernel_rfl) ?_)
        | (refine wpList_loadB rfl 49 _ rfl w2.heap.size 49 (pfxC (six, [b0, b1, b2, b3, b4, b5, b6, b7, b8, b9, b10, b11, b12, b13, b14, b15], n)) _ rfl B3 Tryd.underlying49 rfl HIP.out ?_)
        | (refine wpList_storeB rfl 49 _ _ rfl w2.heap.size 49 (pfxC (false, zeros, 0)) (pfxC (six, [b0, b1, b2, b3, b4, b5, b6, b7, b8, b9, b10, b11, b12, b13, b14, b15], n)) rfl rfl (Blk.new _ _ _) HIP.out rfl (pfx_one _) ?_; intro w3 B3 C3 Z3; have CC3 := (CC2.alloc _).step C3 (fun i hi => .inr (by simp at hi; omega)); have own3 := (own2.alloc _).ch C3 (by intro q hq; have := (own2.blks q hq).2; simp; omega); have B03 := (B02.alloc _).ch C3 (by simp; omega); have sz3 := CC3.size; clear Z3)
        | (go_at_call 66; (with_reducible refine (HPP.out _).mono ?_); rintro e w2 ⟨rfl, C2⟩; have own2 := own.ch C2 (by simp); have B02 := B0.ch C2 (by simp); have CC2 := CC.trans C2; have lt2 := B02.lt; have sz2 := CC2.size))
      go_roundw
      case rel =>
        refine ⟨k + 1, A4, c4, rfl, by go_num, by omega, ?_, (B03.alloc _).ch ch4 (fun hm => hw0 _ hm rfl), ?_, (CC3.alloc _).step ch4 (fun g' hg' => .inr (own.blks g' hg').1)⟩
        · rw [HTK.out, List.flatMap_append]
          simpa using own4
        · intro x hx
          rcases at4 x hx with h1 | h1
          · exact hw0 x h1
          · simp only [World.size_alloc] at h1
            omega
      case measure => simp [intOf]; omega
    · obtain rfl : k = 15 := by omega
      go_wp2_with fail
      go_ret
      refine ⟨A, c, rfl, ?_, CC⟩
      rwa [List.take_of_length_le (by rw [blk_len]; omega)] at own
set_option maxRecDepth 20000 in
set_option maxHeartbeats 4000000 in
theorem refIdx (six : Bool) (bs : List Int) (hg : GoodA bs) (w : World) : Calls Tryd.prog 28 #[.agg (addrC six bs).toArray] w fun e w' => e = .returned (.int .i64 (idxP six bs blkT 0)) ∧ Ch [] w w' := by
  have hB0 : Blk (w.alloc (.cells (addrC six bs).toArray 29)) w.heap.size 29 (addrC six bs) := Blk.new w _ _
  have hC0 : Ch [] w (w.alloc (.cells (addrC six bs).toArray 29)) := (Ch.refl _ _).alloc _
  have HI := hid (addr_inf (six := six) hg.1)
  obtain ⟨vs, hvs⟩ : ∃ vs, (addrC six bs).toArray = vs := ⟨_, rfl⟩
  have HVS := hid hvs
  rw [hvs] at hB0 hC0 ⊢
  clear hvs
  go_enter Tryd.func28, Tryd.ntmps28
  go_wp2_with (go_at_call 23; (with_reducible refine (refBlkL _).mono ?_); rintro e w2 ⟨A, c, rfl, own, C2⟩; have B2 := hB0.ch C2 (by simp); have CC2 := hC0.trans C2)
  obtain ⟨g, rfl, hg0, hg1⟩ := own.form (by decide)
  have hrow := own_rows own
  have HROW := hid hrow
  clear hrow C2 hB0 hC0
  go_loopw [4] (fun i wr => ∃ k : Nat, k ≤ 15 ∧ i = .int .i64 k ∧ Hid (∀ (j : Nat) (x : Pfx), j < k → blkT[j]? = some x → contP x six bs = false) ∧ Ch [] w2 wr) (fun i _ => 15 - (intOf i).toNat)
  case atStart => exact ⟨0, by omega, rfl, fun j x hj => absurd hj (by omega), Ch.refl _ _⟩
  case round =>
    obtain ⟨k, hk, rfl, HN, CR⟩ := hrel
    by_cases hlt : k < 15
    · obtain ⟨p, hp⟩ : ∃ p, blkT[k]? = some p := ⟨blkT[k]'(by rw [blk_len]; omega), List.getElem?_eq_getElem (by rw [blk_len]; omega)⟩
      have hgp : GoodA p.2.1 := blk_good p (List.mem_of_getElem? hp)
      have HP := hid hp
      have HRP : Hid (∀ w', Ch [] wr w' → w'.rangeAt g (k * 18) (pfxC p)) := fun w' h j v hv => ((CR.trans h).cell (p := ⟨g, k * 18 + j, none⟩) hg1 (by simp)).trans (HROW.out k p hp j v hv)
      have HRA : Hid (∀ w', Ch [] wr w' → w'.rangeAt w.heap.size 0 (addrC six bs)) := fun w' h => ((B2.ch CR (by simp)).ch h (by simp)).range
      obtain ⟨s6, ps, n⟩ := p
      have HIP := hid (pfx_inf (p := (s6, ps, n)) hgp.1)
      have HC := hid (refContPfx s6 ps n hgp six bs hg)
      clear hp hgp
      have hi0 : (0 : Int) ≤ k := by omega
      have hi1 : (k : Int) < 15 := by omega
      cases hcp : contP (s6, ps, n) six bs with
      | true =>
        rw [hcp] at HC
        have HH := hid (idx_hit blkT 0 k HN.out HP.out hcp)
        clear hcp
        go_wp2_with fail
        refine wp_region_quietA (wr) (by kernel_rfl) (by kernel_rfl) (Ch.refl _ _) ?_
        repeat (first
          | (go_big_quiet_want; refine quiet_rowA 49 _ rfl g (k * 18) rfl (pfxC (s6, ps, n)) _ HRP.out Tryd.underlying49 rfl HIP.out ?_; simp only [Act.put, List.setIfInBounds_toArray, List.set_cons_succ, List.set_cons_zero]; go_big_quiet_on)
          | (go_big_quiet_want; refine quiet_rowA 29 _ rfl w.heap.size 0 rfl (addrC six bs) _ HRA.out Tryd.underlying29 rfl HI.out ?_; simp only [Act.put, List.setIfInBounds_toArray, List.set_cons_succ, List.set_cons_zero]; go_big_quiet_on)
          | go_big_quiet_step (first
            | (go_at_call 70; with_reducible exact after_of (HC.out _))))
        refine wpQuiet_nil ?_
        intro wq hwq
        go_wp2_with fail
        go_ret
        refine ⟨by (rw [HH.out, Nat.zero_add]) <;> rfl, (CC2.trans CR).trans hwq⟩
      | false =>
        rw [hcp] at HC
        have HN2 : Hid (∀ (j : Nat) (x : Pfx), j < k + 1 → blkT[j]? = some x → contP x six bs = false) := fun j x hj hx => by
          by_cases e : j = k
          · subst e
            rw [HP.out] at hx
            obtain rfl := Option.some.inj hx
            exact hcp
          · exact HN.out j x (by omega) hx
        clear hcp
        go_wp2_with fail
        refine wp_region_quietA (wr) (by kernel_rfl) (by kernel_rfl) (Ch.refl _ _) ?_
        repeat (first
          | (go_big_quiet_want; refine quiet_rowA 49 _ rfl g (k * 18) rfl (pfxC (s6, ps, n)) _ HRP.out Tryd.underlying49 rfl HIP.out ?_; simp only [Act.put, List.setIfInBounds_toArray, List.set_cons_succ, List.set_cons_zero]; go_big_quiet_on)
          | (go_big_quiet_want; refine quiet_rowA 29 _ rfl w.heap.size 0 rfl (addrC six bs) _ HRA.out Tryd.underlying29 rfl HI.out ?_; simp only [Act.put, List.setIfInBounds_toArray, List.set_cons_succ, List.set_cons_zero]; go_big_quiet_on)
          | go_big_quiet_step (first
            | (go_at_call 70; with_reducible exact after_of (HC.out _))))
        refine wpQuiet_nil ?_
        intro wq hwq
        go_wp2_with fail
        go_roundw
        case rel => exact ⟨k + 1, by omega, by go_num, HN2, CR.trans hwq⟩
        case measure => simp [intOf]; omega
    · obtain rfl : k = 15 := by omega
      have HH := hid (idx_miss (six := six) (a := bs) blkT 0 (fun j x hx => HN.out j x (by have := (List.getElem?_eq_some_iff.1 hx).1; rw [blk_len] at this; exact this) hx))
      go_wp2_with fail
      go_ret
      exact ⟨by (rw [HH.out]) <;> rfl, CC2.trans CR⟩
end Go.Proofs.YtjabeabbaambcaaDoor
