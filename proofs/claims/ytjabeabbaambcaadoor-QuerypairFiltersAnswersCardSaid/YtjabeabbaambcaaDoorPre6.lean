/- blocklist.prefix6, policytable.policyRow: a prefix, a row with the given leading groups. -/
import Derived.Test.YtjabeabbaambcaaDoorAppZ
import Derived.Test.YtjabeabbaambcaaDoorBlkP
namespace Go.Proofs.YtjabeabbaambcaaDoor
open Go.RowKit

theorem pfx_cells (six : Bool) (b0 b1 b2 b3 b4 b5 b6 b7 b8 b9 b10 b11 b12 b13 b14 b15 n : Int) : pfxC (six, [b0, b1, b2, b3, b4, b5, b6, b7, b8, b9, b10, b11, b12, b13, b14, b15], n) = [.bool six, .int .u8 b0, .int .u8 b1, .int .u8 b2, .int .u8 b3, .int .u8 b4, .int .u8 b5, .int .u8 b6, .int .u8 b7, .int .u8 b8, .int .u8 b9, .int .u8 b10, .int .u8 b11, .int .u8 b12, .int .u8 b13, .int .u8 b14, .int .u8 b15, .int .i64 n] := rfl
theorem addr_cells (six : Bool) (b0 b1 b2 b3 b4 b5 b6 b7 b8 b9 b10 b11 b12 b13 b14 b15 : Int) : addrC six [b0, b1, b2, b3, b4, b5, b6, b7, b8, b9, b10, b11, b12, b13, b14, b15] = [.bool six, .int .u8 b0, .int .u8 b1, .int .u8 b2, .int .u8 b3, .int .u8 b4, .int .u8 b5, .int .u8 b6, .int .u8 b7, .int .u8 b8, .int .u8 b9, .int .u8 b10, .int .u8 b11, .int .u8 b12, .int .u8 b13, .int .u8 b14, .int .u8 b15] := rfl
def rowC (r : Pfx × Int × Int) : List Value := pfxC r.1 ++ [.int .i64 r.2.1, .int .i64 r.2.2]
theorem row_len {r : Pfx × Int × Int} (h : r.1.2.1.length = 16) : (rowC r).length = 20 := by unfold rowC; rw [List.length_append, pfx_len h]; rfl
theorem row_info : (Tryd.prog.info? 75).map (·.size) = some 20 := by kernel_rfl
theorem row_inf {r : Pfx × Int × Int} (h : r.1.2.1.length = 16) : (Tryd.prog.info? 75).map (·.size) = some (rowC r).length := by rw [row_len h]; exact row_info
theorem row_one (r : Pfx × Int × Int) : (rowC r).all (·.oneCell') = true := by
  unfold rowC
  rw [List.all_append, pfx_one]
  rfl

set_option maxRecDepth 20000 in
set_option maxHeartbeats 4000000 in
theorem pre6 (A : Option Addr) (n : Nat) (gs : List Int) (bits : Int) (B : Nat) (w : World) (hr : RdI .u16 w B A n gs) (hB : B ≤ w.heap.size) (hn : n ≤ 8) (hA : n = 0 → A = none) (hb : ∀ x ∈ gs, 0 ≤ x ∧ x ≤ 65535) :
    Calls Tryd.prog 72 #[.int .i64 bits, .slice A n n] w fun e w' => e = .returned (.agg (pfxC (pf6 gs bits)).toArray) ∧ Ch [] w w' := by
  have hl := hr.1
  obtain ⟨hfl, hfb⟩ := full_good (gs := gs) (by omega) hb
  have hgd := grpB_good hfl hfb
  have hpf : pf6 gs bits = (true, grpB (gs ++ List.replicate (8 - gs.length) 0), bits) := rfl
  have HV := hid (fun (W : World) A cp hr => ipV6 A cp (gs ++ List.replicate (8 - gs.length) 0) W hr hfl hfb)
  rw [hpf]
  obtain ⟨W1, hW1⟩ : ∃ W1, w.alloc (.cells #[.bool false, .int .u8 0, .int .u8 0, .int .u8 0, .int .u8 0, .int .u8 0, .int .u8 0, .int .u8 0, .int .u8 0, .int .u8 0, .int .u8 0, .int .u8 0, .int .u8 0, .int .u8 0, .int .u8 0, .int .u8 0, .int .u8 0, .int .i64 0] 49) = W1 := ⟨_, rfl⟩
  have hC1 : Ch [] w W1 := hW1 ▸ (Ch.refl _ _).alloc _
  have hB1 : Blk W1 w.heap.size 49 (pfxC (false, zeros, 0)) := hW1 ▸ Blk.new _ _ _
  have hr1 := hr.ch hC1 hB (by simp)
  obtain ⟨A2, c2, W2, happ, hr2, hC2⟩ := run_appZ (P := Tryd.prog) W1 .u16 117 3 117 100 2 .i64 .i64 Tryd.underlying117 Tryd.underlying3 u16_infoZ (by omega) B A n gs hr1 (Nat.le_trans hB hC1.size) (8 - n) hA (by omega) (8 - (n : Int)) (by omega)
  rw [show n + (8 - n) = 8 by omega] at happ hr2
  rw [show 8 - n = 8 - gs.length by omega] at hr2
  have HV2 := hid (HV.out W2 A2 c2 hr2)
  have hB2 := hB1.ch hC2 (by simp)
  have CC2 := hC1.trans hC2
  obtain ⟨b0, b1, b2, b3, b4, b5, b6, b7, b8, b9, b10, b11, b12, b13, b14, b15, he⟩ := len16 hgd.1
  rw [he] at HV2 ⊢
  clear HV hgd hfl hfb hpf he hb hr hr1 hr2 hl
  rw [addr_cells] at HV2
  have hsub : (0 : Int) ≤ 8 - (n : Int) ∧ 8 - (n : Int) ≤ 8 := by omega
  obtain ⟨hs0, hs1⟩ := hsub
  have HI := hid (addr_inf (six := true) (bs := [b0, b1, b2, b3, b4, b5, b6, b7, b8, b9, b10, b11, b12, b13, b14, b15]) rfl)
  have HIP := hid (pfx_inf (p := (true, [b0, b1, b2, b3, b4, b5, b6, b7, b8, b9, b10, b11, b12, b13, b14, b15], bits)) rfl)
  subst hW1
  go_enter Tryd.func72, Tryd.ntmps72
  go_wp2_with (first
    | (at_builtin; refine Lib.wpList_append_run _ rfl _ _ _ _ rfl _ _ rfl rfl _ _ happ ?_)
    | (go_at_call 92; (with_reducible refine (HV2.out).mono ?_); rintro e w3 ⟨rfl, C3⟩; have B3 := hB2.ch C3 (by simp); have CC3 := CC2.trans C3; have lt3 := B3.lt)
    | (refine wpList_storeB rfl 49 _ _ rfl w.heap.size 49 (pfxC (false, zeros, 0)) (pfxC (true, [b0, b1, b2, b3, b4, b5, b6, b7, b8, b9, b10, b11, b12, b13, b14, b15], bits)) rfl rfl B4 HIP.out rfl (pfx_one _) ?_; intro w5 B5 C5 Z5; have CC5 := CC4.step C5 (fun i hi => .inr (by simp at hi; omega)))
    | (refine wpList_loadB rfl 29 _ rfl w3.heap.size 29 [.bool true, .int .u8 b0, .int .u8 b1, .int .u8 b2, .int .u8 b3, .int .u8 b4, .int .u8 b5, .int .u8 b6, .int .u8 b7, .int .u8 b8, .int .u8 b9, .int .u8 b10, .int .u8 b11, .int .u8 b12, .int .u8 b13, .int .u8 b14, .int .u8 b15] _ rfl A4 Tryd.underlying29 rfl HI.out ?_)
    | (refine wpList_storeB rfl 29 _ _ rfl w3.heap.size 29 (addrC false zeros) (addrC true [b0, b1, b2, b3, b4, b5, b6, b7, b8, b9, b10, b11, b12, b13, b14, b15]) rfl rfl (Blk.new _ _ _) HI.out rfl (addr_one' _ _) ?_; intro w4 A4 C4 Z4; have CC4 := (CC3.alloc _).step C4 (fun i hi => .inr (by simp at hi; have := CC3.size; omega)); have B4 := (B3.alloc _).ch C4 (by simp; omega); clear Z4))
  try simp only [Exit.inBlock, Exit.then]
  refine bodyPost_ret (results_row1 rfl _ _ rfl B5 Tryd.underlying49 rfl HIP.out) rfl ?_
  exact ⟨rfl, CC5⟩
set_option maxRecDepth 20000 in
set_option maxHeartbeats 4000000 in
theorem polRow (A : Option Addr) (n : Nat) (gs : List Int) (bits pr lb : Int) (B : Nat) (w : World) (hr : RdI .u16 w B A n gs) (hB : B ≤ w.heap.size) (hn : n ≤ 8) (hA : n = 0 → A = none) (hb : ∀ x ∈ gs, 0 ≤ x ∧ x ≤ 65535) :
    Calls Tryd.prog 82 #[.int .i64 bits, .int .i64 pr, .int .i64 lb, .slice A n n] w fun e w' => e = .returned (.agg (rowC (pf6 gs bits, pr, lb)).toArray) ∧ Ch [] w w' := by
  have hl := hr.1
  obtain ⟨hfl, hfb⟩ := full_good (gs := gs) (by omega) hb
  have hgd := grpB_good hfl hfb
  have hpf : pf6 gs bits = (true, grpB (gs ++ List.replicate (8 - gs.length) 0), bits) := rfl
  have HV := hid (fun (W : World) A cp hr => ipV6 A cp (gs ++ List.replicate (8 - gs.length) 0) W hr hfl hfb)
  rw [hpf]
  obtain ⟨W1, hW1⟩ : ∃ W1, w.alloc (.cells #[.bool false, .int .u8 0, .int .u8 0, .int .u8 0, .int .u8 0, .int .u8 0, .int .u8 0, .int .u8 0, .int .u8 0, .int .u8 0, .int .u8 0, .int .u8 0, .int .u8 0, .int .u8 0, .int .u8 0, .int .u8 0, .int .u8 0, .int .i64 0, .int .i64 0, .int .i64 0] 75) = W1 := ⟨_, rfl⟩
  have hC1 : Ch [] w W1 := hW1 ▸ (Ch.refl _ _).alloc _
  have hB1 : Blk W1 w.heap.size 75 (rowC ((false, zeros, 0), 0, 0)) := hW1 ▸ Blk.new _ _ _
  have hr1 := hr.ch hC1 hB (by simp)
  obtain ⟨A2, c2, W2, happ, hr2, hC2⟩ := run_appZ (P := Tryd.prog) W1 .u16 117 3 117 100 2 .i64 .i64 Tryd.underlying117 Tryd.underlying3 u16_infoZ (by omega) B A n gs hr1 (Nat.le_trans hB hC1.size) (8 - n) hA (by omega) (8 - (n : Int)) (by omega)
  rw [show n + (8 - n) = 8 by omega] at happ hr2
  rw [show 8 - n = 8 - gs.length by omega] at hr2
  have HV2 := hid (HV.out W2 A2 c2 hr2)
  have hB2 := hB1.ch hC2 (by simp)
  have CC2 := hC1.trans hC2
  obtain ⟨b0, b1, b2, b3, b4, b5, b6, b7, b8, b9, b10, b11, b12, b13, b14, b15, he⟩ := len16 hgd.1
  rw [he] at HV2 ⊢
  clear HV hgd hfl hfb hpf he hb hr hr1 hr2 hl
  rw [addr_cells] at HV2
  have hsub : (0 : Int) ≤ 8 - (n : Int) ∧ 8 - (n : Int) ≤ 8 := by omega
  obtain ⟨hs0, hs1⟩ := hsub
  have HI := hid (addr_inf (six := true) (bs := [b0, b1, b2, b3, b4, b5, b6, b7, b8, b9, b10, b11, b12, b13, b14, b15]) rfl)
  have HIP := hid (row_inf (r := ((true, [b0, b1, b2, b3, b4, b5, b6, b7, b8, b9, b10, b11, b12, b13, b14, b15], bits), pr, lb)) rfl)
  subst hW1
  go_enter Tryd.func82, Tryd.ntmps82
  go_wp2_with (first
    | (at_builtin; refine Lib.wpList_append_run _ rfl _ _ _ _ rfl _ _ rfl rfl _ _ happ ?_)
    | (go_at_call 92; (with_reducible refine (HV2.out).mono ?_); rintro e w3 ⟨rfl, C3⟩; have B3 := hB2.ch C3 (by simp); have CC3 := CC2.trans C3; have lt3 := B3.lt)
    | (refine wpList_storeB rfl 75 _ _ rfl w.heap.size 75 (rowC ((false, zeros, 0), 0, 0)) (rowC ((true, [b0, b1, b2, b3, b4, b5, b6, b7, b8, b9, b10, b11, b12, b13, b14, b15], bits), pr, lb)) rfl rfl B4 HIP.out rfl (row_one _) ?_; intro w5 B5 C5 Z5; have CC5 := CC4.step C5 (fun i hi => .inr (by simp at hi; omega)))
    | (refine wpList_loadB rfl 29 _ rfl w3.heap.size 29 [.bool true, .int .u8 b0, .int .u8 b1, .int .u8 b2, .int .u8 b3, .int .u8 b4, .int .u8 b5, .int .u8 b6, .int .u8 b7, .int .u8 b8, .int .u8 b9, .int .u8 b10, .int .u8 b11, .int .u8 b12, .int .u8 b13, .int .u8 b14, .int .u8 b15] _ rfl A4 Tryd.underlying29 rfl HI.out ?_)
    | (refine wpList_storeB rfl 29 _ _ rfl w3.heap.size 29 (addrC false zeros) (addrC true [b0, b1, b2, b3, b4, b5, b6, b7, b8, b9, b10, b11, b12, b13, b14, b15]) rfl rfl (Blk.new _ _ _) HI.out rfl (addr_one' _ _) ?_; intro w4 A4 C4 Z4; have CC4 := (CC3.alloc _).step C4 (fun i hi => .inr (by simp at hi; have := CC3.size; omega)); have B4 := (B3.alloc _).ch C4 (by simp; omega); clear Z4))
  try simp only [Exit.inBlock, Exit.then]
  refine bodyPost_ret (results_row1 rfl _ _ rfl B5 Tryd.underlying75 rfl HIP.out) rfl ?_
  exact ⟨rfl, CC5⟩
end Go.Proofs.YtjabeabbaambcaaDoor
