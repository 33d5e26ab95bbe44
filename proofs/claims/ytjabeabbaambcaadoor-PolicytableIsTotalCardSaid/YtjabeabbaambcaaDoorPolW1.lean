/- policytable.toIPv6, hasPrefix. -/
import Derived.Test.YtjabeabbaambcaaDoorCopy
import Derived.Test.YtjabeabbaambcaaDoorTab
import Derived.Test.YtjabeabbaambcaaDoorPolP
import Derived.Test.YtjabeabbaambcaaDoorCidr4
import Derived.Test.YtjabeabbaambcaaDoorStages3
namespace Go.Proofs.YtjabeabbaambcaaDoor
open Go.RowKit

theorem u8_size : (Tryd.prog.info? 5).map (·.size) = some 1 := by kernel_rfl
set_option maxRecDepth 100000 in
set_option maxHeartbeats 4000000 in
theorem toSix (six : Bool) (av : List Int) (hg : GoodA av) (w : World) : Calls Tryd.prog 94 #[.agg (addrC six av).toArray] w fun e w' => e = .returned (.agg (addrC true (map6 six av)).toArray) ∧ Ch [] w w' := by
  obtain ⟨b0, b1, b2, b3, b4, b5, b6, b7, b8, b9, b10, b11, b12, b13, b14, b15, rfl⟩ := len16 hg.1
  have HI := hid (addr_inf (six := true) (bs := [b0, b1, b2, b3, b4, b5, b6, b7, b8, b9, b10, b11, b12, b13, b14, b15]) rfl)
  have HI2 := hid (addr_inf (six := true) (bs := mapA b0 b1 b2 b3) rfl)
  have HU := hid u8_size
  clear hg
  cases six
  · show Calls Tryd.prog 94 #[.agg #[.bool false, .int .u8 b0, .int .u8 b1, .int .u8 b2, .int .u8 b3, .int .u8 b4, .int .u8 b5, .int .u8 b6, .int .u8 b7, .int .u8 b8, .int .u8 b9, .int .u8 b10, .int .u8 b11, .int .u8 b12, .int .u8 b13, .int .u8 b14, .int .u8 b15]] w fun e w' => e = .returned (.agg (addrC true (mapA b0 b1 b2 b3)).toArray) ∧ Ch [] w w'
    have hB1 : Blk (((w.alloc (.cells #[.bool false, .int .u8 b0, .int .u8 b1, .int .u8 b2, .int .u8 b3, .int .u8 b4, .int .u8 b5, .int .u8 b6, .int .u8 b7, .int .u8 b8, .int .u8 b9, .int .u8 b10, .int .u8 b11, .int .u8 b12, .int .u8 b13, .int .u8 b14, .int .u8 b15] 29)).alloc (.cells #[.bool false, .int .u8 0, .int .u8 0, .int .u8 0, .int .u8 0, .int .u8 0, .int .u8 0, .int .u8 0, .int .u8 0, .int .u8 0, .int .u8 0, .int .u8 0, .int .u8 0, .int .u8 0, .int .u8 0, .int .u8 0, .int .u8 0] 29)).alloc (.cells #[.bool true, .int .u8 0, .int .u8 0, .int .u8 0, .int .u8 0, .int .u8 0, .int .u8 0, .int .u8 0, .int .u8 0, .int .u8 0, .int .u8 0, .int .u8 0, .int .u8 0, .int .u8 0, .int .u8 0, .int .u8 0, .int .u8 0] 29)) w.heap.size 29 (addrC false [b0, b1, b2, b3, b4, b5, b6, b7, b8, b9, b10, b11, b12, b13, b14, b15]) := ((Blk.new w 29 (addrC false [b0, b1, b2, b3, b4, b5, b6, b7, b8, b9, b10, b11, b12, b13, b14, b15])).alloc _).alloc _
    have hB2 : Blk (((w.alloc (.cells #[.bool false, .int .u8 b0, .int .u8 b1, .int .u8 b2, .int .u8 b3, .int .u8 b4, .int .u8 b5, .int .u8 b6, .int .u8 b7, .int .u8 b8, .int .u8 b9, .int .u8 b10, .int .u8 b11, .int .u8 b12, .int .u8 b13, .int .u8 b14, .int .u8 b15] 29)).alloc (.cells #[.bool false, .int .u8 0, .int .u8 0, .int .u8 0, .int .u8 0, .int .u8 0, .int .u8 0, .int .u8 0, .int .u8 0, .int .u8 0, .int .u8 0, .int .u8 0, .int .u8 0, .int .u8 0, .int .u8 0, .int .u8 0, .int .u8 0] 29)).alloc (.cells #[.bool true, .int .u8 0, .int .u8 0, .int .u8 0, .int .u8 0, .int .u8 0, .int .u8 0, .int .u8 0, .int .u8 0, .int .u8 0, .int .u8 0, .int .u8 0, .int .u8 0, .int .u8 0, .int .u8 0, .int .u8 0, .int .u8 0] 29)) (w.heap.size + 1) 29 (addrC false zeros) := (Blk.newAt (w.alloc (.cells #[.bool false, .int .u8 b0, .int .u8 b1, .int .u8 b2, .int .u8 b3, .int .u8 b4, .int .u8 b5, .int .u8 b6, .int .u8 b7, .int .u8 b8, .int .u8 b9, .int .u8 b10, .int .u8 b11, .int .u8 b12, .int .u8 b13, .int .u8 b14, .int .u8 b15] 29)) 29 (addrC false zeros) (by simp)).alloc _
    have hB3 : Blk (((w.alloc (.cells #[.bool false, .int .u8 b0, .int .u8 b1, .int .u8 b2, .int .u8 b3, .int .u8 b4, .int .u8 b5, .int .u8 b6, .int .u8 b7, .int .u8 b8, .int .u8 b9, .int .u8 b10, .int .u8 b11, .int .u8 b12, .int .u8 b13, .int .u8 b14, .int .u8 b15] 29)).alloc (.cells #[.bool false, .int .u8 0, .int .u8 0, .int .u8 0, .int .u8 0, .int .u8 0, .int .u8 0, .int .u8 0, .int .u8 0, .int .u8 0, .int .u8 0, .int .u8 0, .int .u8 0, .int .u8 0, .int .u8 0, .int .u8 0, .int .u8 0] 29)).alloc (.cells #[.bool true, .int .u8 0, .int .u8 0, .int .u8 0, .int .u8 0, .int .u8 0, .int .u8 0, .int .u8 0, .int .u8 0, .int .u8 0, .int .u8 0, .int .u8 0, .int .u8 0, .int .u8 0, .int .u8 0, .int .u8 0, .int .u8 0] 29)) (w.heap.size + 2) 29 (addrC true zeros) := Blk.newAt _ 29 (addrC true zeros) (by simp)
    have hC : Ch [] w (((w.alloc (.cells #[.bool false, .int .u8 b0, .int .u8 b1, .int .u8 b2, .int .u8 b3, .int .u8 b4, .int .u8 b5, .int .u8 b6, .int .u8 b7, .int .u8 b8, .int .u8 b9, .int .u8 b10, .int .u8 b11, .int .u8 b12, .int .u8 b13, .int .u8 b14, .int .u8 b15] 29)).alloc (.cells #[.bool false, .int .u8 0, .int .u8 0, .int .u8 0, .int .u8 0, .int .u8 0, .int .u8 0, .int .u8 0, .int .u8 0, .int .u8 0, .int .u8 0, .int .u8 0, .int .u8 0, .int .u8 0, .int .u8 0, .int .u8 0, .int .u8 0] 29)).alloc (.cells #[.bool true, .int .u8 0, .int .u8 0, .int .u8 0, .int .u8 0, .int .u8 0, .int .u8 0, .int .u8 0, .int .u8 0, .int .u8 0, .int .u8 0, .int .u8 0, .int .u8 0, .int .u8 0, .int .u8 0, .int .u8 0, .int .u8 0] 29)) := (((Ch.refl _ _).alloc _).alloc _).alloc _
    go_enter Tryd.func94, Tryd.ntmps94
    go_wp2_with (first
      | (refine wpList_copyStr rfl _ _ 110 9 rfl (w.heap.size + 2) 11 6 6 ⟨#[255, 255]⟩ 29 5 (addrC true zeros) rfl rfl hB3 Tryd.underlying110 HU.out (by decide) (by decide) ?_; intro w4 B40 C4 Z4; have B4 : Blk w4 (w.heap.size + 2) 29 (addrC true [0, 0, 0, 0, 0, 0, 0, 0, 0, 0, 255, 255, 0, 0, 0, 0]) := B40; have B14 := hB1.ch C4 (by simp); have B24 := hB2.ch C4 (by simp); have CC4 := hC.step C4 (fun i hi => .inr (by simp at hi; omega)); clear Z4))
    try simp only [Act.put, List.setIfInBounds_toArray, List.set_cons_succ, List.set_cons_zero]
    refine wp_region_stagesM [⟨0, 8, 2048⟩, ⟨1, 2048, 4096⟩, ⟨0, 2, 8192⟩, ⟨4, 8192, 16384⟩, ⟨10, 20480, 32768⟩] [([0, 1, 2, 3], 4, [])] [] (by kernel_rfl) (by kernel_rfl) ?_
    refine wpStages_step ?_
    simp only [pick, List.map_cons, List.map_nil, List.getD_cons_zero, List.getD_cons_succ]
    repeat (go_big_quiet_step (fail))
    refine wpQuiet_nil ?_
    intro n0
    simp only [pick, List.map_cons, List.map_nil, List.getD_cons_zero, List.getD_cons_succ]
    go_wp2_with (refine wpList_copyB rfl _ _ 110 110 rfl (w.heap.size + 2) 13 4 4 w.heap.size 1 4 16 29 5 (addrC true [0, 0, 0, 0, 0, 0, 0, 0, 0, 0, 255, 255, 0, 0, 0, 0]) [.int .u8 b0, .int .u8 b1, .int .u8 b2, .int .u8 b3] (addrC true (mapA b0 b1 b2 b3)) ?_ ?_ ?_ ?_ ?_ ?_ ?_ ?_ ?_ ?_ ?_; rfl; rfl; exact (B4.drewN n0); exact Tryd.underlying110; exact HU.out; rfl; exact ((B14.drewN n0).rangeMid 1 _ (fun j v hj => by match j, hj with | 0, h => exact h | 1, h => exact h | 2, h => exact h | 3, h => exact h)); (show 13 + 4 ≤ 17; omega); rfl; rfl; intro w5 B5 C5 Z5; have B25 := (B24.drewN n0).ch C5 (by simp); have CC5 := (CC4.drewN n0).step C5 (fun i hi => .inr (by simp at hi; omega)); clear Z5)
    refine stagePost_mk ?_ ?_
    · intro o ho; simp [pick] at ho
    refine wpStages_last ?_
    simp only [pick, List.map_nil]
    refine wpQuiet_nil ?_
    intro n1
    have B5' := B5.drewN n1
    have B25' := B25.drewN n1
    have CC5' := CC5.drewN n1
    go_wp2_with (first
      | (refine wpList_loadB rfl 29 _ rfl (w.heap.size + 2) 29 (addrC true (mapA b0 b1 b2 b3)) _ rfl B5' Tryd.underlying29 rfl HI2.out ?_)
      | (refine wpList_storeB rfl 29 _ _ rfl (w.heap.size + 1) 29 (addrC false zeros) (addrC true (mapA b0 b1 b2 b3)) rfl rfl B25' HI2.out rfl (addr_one' _ _) ?_; intro w6 B6 C6 Z6))
    try simp only [Exit.inBlock, Exit.then]
    refine bodyPost_ret (results_row1 rfl _ _ rfl B6 Tryd.underlying29 rfl HI2.out) rfl ?_
    exact ⟨rfl, CC5'.step C6 (fun i hi => .inr (by simp at hi; omega))⟩
  · show Calls Tryd.prog 94 #[.agg #[.bool true, .int .u8 b0, .int .u8 b1, .int .u8 b2, .int .u8 b3, .int .u8 b4, .int .u8 b5, .int .u8 b6, .int .u8 b7, .int .u8 b8, .int .u8 b9, .int .u8 b10, .int .u8 b11, .int .u8 b12, .int .u8 b13, .int .u8 b14, .int .u8 b15]] w fun e w' => e = .returned (.agg (addrC true [b0, b1, b2, b3, b4, b5, b6, b7, b8, b9, b10, b11, b12, b13, b14, b15]).toArray) ∧ Ch [] w w'
    have hB2 : Blk ((w.alloc (.cells #[.bool true, .int .u8 b0, .int .u8 b1, .int .u8 b2, .int .u8 b3, .int .u8 b4, .int .u8 b5, .int .u8 b6, .int .u8 b7, .int .u8 b8, .int .u8 b9, .int .u8 b10, .int .u8 b11, .int .u8 b12, .int .u8 b13, .int .u8 b14, .int .u8 b15] 29)).alloc (.cells #[.bool false, .int .u8 0, .int .u8 0, .int .u8 0, .int .u8 0, .int .u8 0, .int .u8 0, .int .u8 0, .int .u8 0, .int .u8 0, .int .u8 0, .int .u8 0, .int .u8 0, .int .u8 0, .int .u8 0, .int .u8 0, .int .u8 0] 29)) (w.heap.size + 1) 29 (addrC false zeros) := Blk.newAt (w.alloc (.cells #[.bool true, .int .u8 b0, .int .u8 b1, .int .u8 b2, .int .u8 b3, .int .u8 b4, .int .u8 b5, .int .u8 b6, .int .u8 b7, .int .u8 b8, .int .u8 b9, .int .u8 b10, .int .u8 b11, .int .u8 b12, .int .u8 b13, .int .u8 b14, .int .u8 b15] 29)) 29 (addrC false zeros) (by simp)
    have hC : Ch [] w ((w.alloc (.cells #[.bool true, .int .u8 b0, .int .u8 b1, .int .u8 b2, .int .u8 b3, .int .u8 b4, .int .u8 b5, .int .u8 b6, .int .u8 b7, .int .u8 b8, .int .u8 b9, .int .u8 b10, .int .u8 b11, .int .u8 b12, .int .u8 b13, .int .u8 b14, .int .u8 b15] 29)).alloc (.cells #[.bool false, .int .u8 0, .int .u8 0, .int .u8 0, .int .u8 0, .int .u8 0, .int .u8 0, .int .u8 0, .int .u8 0, .int .u8 0, .int .u8 0, .int .u8 0, .int .u8 0, .int .u8 0, .int .u8 0, .int .u8 0, .int .u8 0] 29)) := ((Ch.refl _ _).alloc _).alloc _
    go_enter Tryd.func94, Tryd.ntmps94
    go_wp2_with (first
      | (refine wpList_storeB rfl 29 _ _ rfl (w.heap.size + 1) 29 (addrC false zeros) (addrC true [b0, b1, b2, b3, b4, b5, b6, b7, b8, b9, b10, b11, b12, b13, b14, b15]) rfl rfl hB2 HI.out rfl (addr_one' _ _) ?_; intro w6 B6 C6 Z6))
    try simp only [Exit.inBlock, Exit.then]
    refine bodyPost_ret (results_row1 rfl _ _ rfl B6 Tryd.underlying29 rfl HI.out) rfl ?_
    exact ⟨rfl, hC.step C6 (fun i hi => .inr (by simp at hi; omega))⟩

set_option maxRecDepth 20000 in
set_option maxHeartbeats 4000000 in
theorem has1 (six : Bool) (av : List Int) (hg : GoodA av) (c0 n : Int) (hc0 : 0 ≤ c0 ∧ c0 ≤ 255) (r : Nat) (w : World) (hr : w.rangeAt r 0 [.int .u8 c0]) (hrw : r < w.heap.size) :
    Calls Tryd.prog 81 #[.agg (addrC six av).toArray, .int .i64 n, .slice (some ⟨r, 0, none⟩) 1 1] w fun e w' => e = .returned (.bool (contP (hasX six c0 0 n) six av)) ∧ Ch [] w w' := by
  have hgx : GoodA (hasX six c0 0 n).2.1 := ⟨rfl, fun x hx => by simp only [hasX, List.mem_cons, List.not_mem_nil, or_false] at hx; omega⟩
  have HI := hid (addr_inf (six := six) hg.1)
  have HIP := hid (pfx_inf (p := hasX six c0 0 n) rfl)
  have HU := hid u8_size
  have HC : Hid (∀ w, Calls Tryd.prog 69 #[.agg (pfxC (hasX six c0 0 n)).toArray, .agg (addrC six av).toArray] w fun e w' => e = .returned (.bool (contP (hasX six c0 0 n) six av)) ∧ Ch [] w w') := contPfx six _ n hgx six av hg
  have hB1 : Blk ((w.alloc (.cells (addrC six av).toArray 29)).alloc (.cells #[.bool six, .int .u8 0, .int .u8 0, .int .u8 0, .int .u8 0, .int .u8 0, .int .u8 0, .int .u8 0, .int .u8 0, .int .u8 0, .int .u8 0, .int .u8 0, .int .u8 0, .int .u8 0, .int .u8 0, .int .u8 0, .int .u8 0, .int .i64 n] 49)) w.heap.size 29 (addrC six av) := (Blk.new w _ _).alloc _
  have hB2 : Blk ((w.alloc (.cells (addrC six av).toArray 29)).alloc (.cells #[.bool six, .int .u8 0, .int .u8 0, .int .u8 0, .int .u8 0, .int .u8 0, .int .u8 0, .int .u8 0, .int .u8 0, .int .u8 0, .int .u8 0, .int .u8 0, .int .u8 0, .int .u8 0, .int .u8 0, .int .u8 0, .int .u8 0, .int .i64 n] 49)) (w.heap.size + 1) 49 (pfxC (six, zeros, n)) := Blk.newAt _ 49 (pfxC (six, zeros, n)) (by simp)
  have hC : Ch [] w ((w.alloc (.cells (addrC six av).toArray 29)).alloc (.cells #[.bool six, .int .u8 0, .int .u8 0, .int .u8 0, .int .u8 0, .int .u8 0, .int .u8 0, .int .u8 0, .int .u8 0, .int .u8 0, .int .u8 0, .int .u8 0, .int .u8 0, .int .u8 0, .int .u8 0, .int .u8 0, .int .u8 0, .int .i64 n] 49)) := ((Ch.refl _ _).alloc _).alloc _
  have hz0 : (w.alloc (.cells (addrC six av).toArray 29)).cell? ⟨w.heap.size, 0, none⟩ = some (.bool six) := (Blk.new w 29 (addrC six av)).cell 0
  have HR : Hid (∀ w', Ch [] w w' → w'.rangeAt r 0 [.int .u8 c0]) := fun w' h => range_ch hr h hrw (by simp)
  generalize contP (hasX six c0 0 n) six av = V at HC ⊢
  obtain ⟨vs, hvs⟩ : ∃ vs, (addrC six av) = vs := ⟨_, rfl⟩
  rw [hvs] at hB1 hB2 hC hz0 HC HI ⊢
  clear hvs hgx hr hc0
  go_enter Tryd.func81, Tryd.ntmps81
  go_wp2_with (first
    | (refine wpList_copyB rfl _ _ 110 110 rfl (w.heap.size + 1) 1 16 16 r 0 1 1 49 5 (pfxC (six, zeros, n)) [.int .u8 c0] (pfxC (hasX six c0 0 n)) ?_ ?_ ?_ ?_ ?_ ?_ ?_ ?_ ?_ ?_ ?_; rfl; rfl; exact hB2; exact Tryd.underlying110; exact HU.out; rfl; exact HR.out _ hC; (show 1 + 1 ≤ 18; omega); rfl; rfl; intro w5 B5 C5 Z5; have B15 := hB1.ch C5 (by simp); have CC5 := hC.step C5 (fun i hi => .inr (by simp at hi; omega)); clear Z5)
    | (refine wpList_loadB rfl 49 _ rfl (w.heap.size + 1) 49 (pfxC (hasX six c0 0 n)) _ rfl B5 Tryd.underlying49 rfl HIP.out ?_)
    | (refine wpList_loadB rfl 29 _ rfl w.heap.size 29 vs _ rfl B15 Tryd.underlying29 rfl HI.out ?_)
    | (go_at_call 69; (with_reducible refine (HC.out _).mono ?_); rintro e w6 ⟨rfl, C6⟩))
  go_ret
  exact ⟨rfl, CC5.trans C6⟩

set_option maxRecDepth 20000 in
set_option maxHeartbeats 4000000 in
theorem has2 (six : Bool) (av : List Int) (hg : GoodA av) (c0 c1 n : Int) (hc0 : 0 ≤ c0 ∧ c0 ≤ 255) (hc1 : 0 ≤ c1 ∧ c1 ≤ 255) (r : Nat) (w : World) (hr : w.rangeAt r 0 [.int .u8 c0, .int .u8 c1]) (hrw : r < w.heap.size) :
    Calls Tryd.prog 81 #[.agg (addrC six av).toArray, .int .i64 n, .slice (some ⟨r, 0, none⟩) 2 2] w fun e w' => e = .returned (.bool (contP (hasX six c0 c1 n) six av)) ∧ Ch [] w w' := by
  have hgx : GoodA (hasX six c0 c1 n).2.1 := ⟨rfl, fun x hx => by simp only [hasX, List.mem_cons, List.not_mem_nil, or_false] at hx; omega⟩
  have HI := hid (addr_inf (six := six) hg.1)
  have HIP := hid (pfx_inf (p := hasX six c0 c1 n) rfl)
  have HU := hid u8_size
  have HC : Hid (∀ w, Calls Tryd.prog 69 #[.agg (pfxC (hasX six c0 c1 n)).toArray, .agg (addrC six av).toArray] w fun e w' => e = .returned (.bool (contP (hasX six c0 c1 n) six av)) ∧ Ch [] w w') := contPfx six _ n hgx six av hg
  have hB1 : Blk ((w.alloc (.cells (addrC six av).toArray 29)).alloc (.cells #[.bool six, .int .u8 0, .int .u8 0, .int .u8 0, .int .u8 0, .int .u8 0, .int .u8 0, .int .u8 0, .int .u8 0, .int .u8 0, .int .u8 0, .int .u8 0, .int .u8 0, .int .u8 0, .int .u8 0, .int .u8 0, .int .u8 0, .int .i64 n] 49)) w.heap.size 29 (addrC six av) := (Blk.new w _ _).alloc _
  have hB2 : Blk ((w.alloc (.cells (addrC six av).toArray 29)).alloc (.cells #[.bool six, .int .u8 0, .int .u8 0, .int .u8 0, .int .u8 0, .int .u8 0, .int .u8 0, .int .u8 0, .int .u8 0, .int .u8 0, .int .u8 0, .int .u8 0, .int .u8 0, .int .u8 0, .int .u8 0, .int .u8 0, .int .u8 0, .int .i64 n] 49)) (w.heap.size + 1) 49 (pfxC (six, zeros, n)) := Blk.newAt _ 49 (pfxC (six, zeros, n)) (by simp)
  have hC : Ch [] w ((w.alloc (.cells (addrC six av).toArray 29)).alloc (.cells #[.bool six, .int .u8 0, .int .u8 0, .int .u8 0, .int .u8 0, .int .u8 0, .int .u8 0, .int .u8 0, .int .u8 0, .int .u8 0, .int .u8 0, .int .u8 0, .int .u8 0, .int .u8 0, .int .u8 0, .int .u8 0, .int .u8 0, .int .i64 n] 49)) := ((Ch.refl _ _).alloc _).alloc _
  have hz0 : (w.alloc (.cells (addrC six av).toArray 29)).cell? ⟨w.heap.size, 0, none⟩ = some (.bool six) := (Blk.new w 29 (addrC six av)).cell 0
  have HR : Hid (∀ w', Ch [] w w' → w'.rangeAt r 0 [.int .u8 c0, .int .u8 c1]) := fun w' h => range_ch hr h hrw (by simp)
  generalize contP (hasX six c0 c1 n) six av = V at HC ⊢
  obtain ⟨vs, hvs⟩ : ∃ vs, (addrC six av) = vs := ⟨_, rfl⟩
  rw [hvs] at hB1 hB2 hC hz0 HC HI ⊢
  clear hvs hgx hr hc0 hc1
  go_enter Tryd.func81, Tryd.ntmps81
  go_wp2_with (first
    | (refine wpList_copyB rfl _ _ 110 110 rfl (w.heap.size + 1) 1 16 16 r 0 2 2 49 5 (pfxC (six, zeros, n)) [.int .u8 c0, .int .u8 c1] (pfxC (hasX six c0 c1 n)) ?_ ?_ ?_ ?_ ?_ ?_ ?_ ?_ ?_ ?_ ?_; rfl; rfl; exact hB2; exact Tryd.underlying110; exact HU.out; rfl; exact HR.out _ hC; (show 1 + 2 ≤ 18; omega); rfl; rfl; intro w5 B5 C5 Z5; have B15 := hB1.ch C5 (by simp); have CC5 := hC.step C5 (fun i hi => .inr (by simp at hi; omega)); clear Z5)
    | (refine wpList_loadB rfl 49 _ rfl (w.heap.size + 1) 49 (pfxC (hasX six c0 c1 n)) _ rfl B5 Tryd.underlying49 rfl HIP.out ?_)
    | (refine wpList_loadB rfl 29 _ rfl w.heap.size 29 vs _ rfl B15 Tryd.underlying29 rfl HI.out ?_)
    | (go_at_call 69; (with_reducible refine (HC.out _).mono ?_); rintro e w6 ⟨rfl, C6⟩))
  go_ret
  exact ⟨rfl, CC5.trans C6⟩
end Go.Proofs.YtjabeabbaambcaaDoor
