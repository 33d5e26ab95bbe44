/- ginnelref07.V4, ginnelgen.Addr. -/
import Derived.Test.YtjabeabbaambcaaDoorGen
import Derived.Test.YtjabeabbaambcaaDoorNums
namespace Go.Proofs.YtjabeabbaambcaaDoor
open Go.RowKit

theorem addr_info : (Tryd.prog.info? 29).map (·.size) = some 17 := by kernel_rfl
theorem v4R (a b c d : Int) (w : World) : Calls Tryd.prog 35 #[.int .u8 a, .int .u8 b, .int .u8 c, .int .u8 d] w fun e w' => e = .returned (.agg #[.bool false, .int .u8 a, .int .u8 b, .int .u8 c, .int .u8 d, .int .u8 0, .int .u8 0, .int .u8 0, .int .u8 0, .int .u8 0, .int .u8 0, .int .u8 0, .int .u8 0, .int .u8 0, .int .u8 0, .int .u8 0, .int .u8 0]) ∧ Ch [] w w' := by
  go_enter Tryd.func35, Tryd.ntmps35
  go_wp2_with (refine wpList_storeB rfl 29 _ _ rfl w.heap.size 29 (addrC false zeros) (addrC false [a, b, c, d, 0, 0, 0, 0, 0, 0, 0, 0, 0, 0, 0, 0]) rfl rfl (Blk.new _ _ _) addr_info rfl rfl ?_; intro w2 B2 C2 Z2)
  try simp only [Exit.inBlock, Exit.then]
  refine bodyPost_ret (results_row1 rfl _ _ rfl B2 Tryd.underlying29 rfl addr_info) rfl ?_
  exact ⟨rfl, ((Ch.refl [] w).alloc _).step C2 (fun i hi => .inr (by simp at hi; omega))⟩
set_option maxRecDepth 100000 in
set_option maxHeartbeats 8000000 in
theorem genAddr (n : Int) (w : World) : Calls Tryd.prog 63 #[.int .i64 n] w fun e w' => (∃ six b0 b1 b2 b3 b4 b5 b6 b7 b8 b9 b10 b11 b12 b13 b14 b15, e = .returned (.agg #[.bool six, .int .u8 b0, .int .u8 b1, .int .u8 b2, .int .u8 b3, .int .u8 b4, .int .u8 b5, .int .u8 b6, .int .u8 b7, .int .u8 b8, .int .u8 b9, .int .u8 b10, .int .u8 b11, .int .u8 b12, .int .u8 b13, .int .u8 b14, .int .u8 b15]) ∧ (∀ x ∈ [b0, b1, b2, b3, b4, b5, b6, b7, b8, b9, b10, b11, b12, b13, b14, b15], 0 ≤ x ∧ x ≤ 255) ∧ validA six [b0, b1, b2, b3, b4, b5, b6, b7, b8, b9, b10, b11, b12, b13, b14, b15] = true) ∧ Ch [] w w' := by
  obtain ⟨h0, h1⟩ := modI_rng n 14 (by omega)
  have M1 := hid (fun w => genMod n 14 w (by omega) (by omega))
  generalize modI n 14 = k at h0 h1 M1
  obtain ⟨y, hy⟩ : ∃ y, n / 16 % 256 = y := ⟨_, rfl⟩
  have y0 : 0 ≤ y ∧ y ≤ 255 := by omega
  obtain rfl | rfl | rfl | rfl | rfl | rfl | rfl | rfl | rfl | rfl | rfl | rfl | rfl | rfl : k = 0 ∨ k = 1 ∨ k = 2 ∨ k = 3 ∨ k = 4 ∨ k = 5 ∨ k = 6 ∨ k = 7 ∨ k = 8 ∨ k = 9 ∨ k = 10 ∨ k = 11 ∨ k = 12 ∨ k = 13 := by omega
  all_goals
    go_enter Tryd.func63, Tryd.ntmps63
    go_wp2_with (first
      | (refine wpList_storeB rfl 29 _ _ rfl w.heap.size 29 (addrC false zeros) (addrC _ [_, _, _, _, _, _, _, _, _, _, _, _, _, _, _, _]) rfl rfl B3 addr_info rfl rfl ?_; intro w2 B2 C2 Z2; have CE := C3.step C2 (fun i hi => .inr (by simp at hi; omega)))
      | (refine wpList_storeB rfl 29 _ _ rfl w.heap.size 29 (addrC false zeros) (addrC _ [_, _, _, _, _, _, _, _, _, _, _, _, _, _, _, _]) rfl rfl (Blk.new _ _ _) addr_info rfl rfl ?_; intro w2 B2 C2 Z2; have CE := ((Ch.refl [] w).alloc _).step C2 (fun i hi => .inr (by simp at hi; omega)))
      | (go_at_call 35; (with_reducible refine (v4R _ _ _ _ _).mono ?_); rintro e w3 ⟨rfl, C4⟩; have B3 := (Blk.new w 29 (addrC false zeros)).ch C4 (by simp); have C3 := ((Ch.refl [] w).alloc _).trans C4)
      | (go_at_call 14; (with_reducible refine (M1.out _).mono ?_); rintro e w2 ⟨rfl, rfl⟩))
    try simp only [Exit.inBlock, Exit.then]
    refine bodyPost_ret (results_row1 rfl _ _ rfl B2 Tryd.underlying29 rfl addr_info) rfl ?_
    refine ⟨⟨_, _, _, _, _, _, _, _, _, _, _, _, _, _, _, _, _, rfl, ?_, rfl⟩, CE⟩
    intro x hx
    simp only [List.mem_cons, List.not_mem_nil, or_false] at hx
    omega
end Go.Proofs.YtjabeabbaambcaaDoor
