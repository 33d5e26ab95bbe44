/- ginnelgen.Port, Host, Addr, Target: each value is a valid one. -/
import Derived.Test.YtiffpjlmgeklkaaDoorGen
import Derived.Test.YtiffpjlmgeklkaaDoorTgtG
namespace Go.Proofs.YtiffpjlmgeklkaaDoor
open Go.RowKit

theorem genPort (n : Int) (w : World) : Calls Tryd.prog 31 #[.int .i64 n] w fun e w' => (∃ p, e = .returned (.int .i64 p) ∧ 1 ≤ p ∧ p ≤ 65535) ∧ w = w' := by
  obtain ⟨h0, h1⟩ := modI_rng n 4 (by omega)
  obtain ⟨g0, g1⟩ := modI_rng n 65535 (by omega)
  have M1 := hid (fun w => genMod n 4 w (by omega) (by omega))
  have M2 := hid (fun w => genMod n 65535 w (by omega) (by omega))
  generalize modI n 4 = k at h0 h1 M1
  generalize modI n 65535 = q at g0 g1 M2
  obtain rfl | rfl | rfl | rfl : k = 0 ∨ k = 1 ∨ k = 2 ∨ k = 3 := by omega
  all_goals
    go_enter Tryd.func31, Tryd.ntmps31
    go_wp2_with (first
      | (go_at_call 22; (with_reducible refine (M1.out _).mono ?_); rintro e w2 ⟨rfl, rfl⟩)
      | (go_at_call 22; (with_reducible refine (M2.out _).mono ?_); rintro e w2 ⟨rfl, rfl⟩))
    go_ret
    exact ⟨⟨_, rfl, by omega, by omega⟩, rfl⟩

theorem genHost (n : Int) (w : World) : Calls Tryd.prog 23 #[.int .i64 n] w fun e w' => (∃ s : ByteArray, e = .returned (.string s) ∧ 1 ≤ s.size ∧ s.size ≤ 13) ∧ w = w' := by
  obtain ⟨h0, h1⟩ := modI_rng n 6 (by omega)
  have M1 := hid (fun w => genMod n 6 w (by omega) (by omega))
  generalize modI n 6 = k at h0 h1 M1
  obtain rfl | rfl | rfl | rfl | rfl | rfl : k = 0 ∨ k = 1 ∨ k = 2 ∨ k = 3 ∨ k = 4 ∨ k = 5 := by omega
  all_goals
    go_enter Tryd.func23, Tryd.ntmps23
    go_wp2_with (go_at_call 22; (with_reducible refine (M1.out _).mono ?_); rintro e w2 ⟨rfl, rfl⟩)
    go_ret
    exact ⟨⟨_, rfl, by decide, by decide⟩, rfl⟩

theorem addr_info : (Tryd.prog.info? 24).map (·.size) = some 17 := by kernel_rfl
theorem v4R (a b c d : Int) (w : World) : Calls Tryd.prog 39 #[.int .u8 a, .int .u8 b, .int .u8 c, .int .u8 d] w fun e w' => e = .returned (.agg #[.bool false, .int .u8 a, .int .u8 b, .int .u8 c, .int .u8 d, .int .u8 0, .int .u8 0, .int .u8 0, .int .u8 0, .int .u8 0, .int .u8 0, .int .u8 0, .int .u8 0, .int .u8 0, .int .u8 0, .int .u8 0, .int .u8 0]) ∧ Ch [] w w' := by
  go_enter Tryd.func39, Tryd.ntmps39
  go_wp2_with (refine wpList_storeB rfl 24 _ _ rfl w.heap.size 24 (addrC false zeros) (addrC false [a, b, c, d, 0, 0, 0, 0, 0, 0, 0, 0, 0, 0, 0, 0]) rfl rfl (Blk.new _ _ _) addr_info rfl rfl ?_; intro w2 B2 C2 Z2)
  try simp only [Exit.inBlock, Exit.then]
  refine bodyPost_ret (results_row1 rfl _ _ rfl B2 Tryd.underlying24 rfl addr_info) rfl ?_
  exact ⟨rfl, ((Ch.refl [] w).alloc _).step C2 (fun i hi => .inr (by simp at hi; omega))⟩
set_option maxRecDepth 100000 in
set_option maxHeartbeats 8000000 in
theorem genAddr (n : Int) (w : World) : Calls Tryd.prog 30 #[.int .i64 n] w fun e w' => (∃ six b0 b1 b2 b3 b4 b5 b6 b7 b8 b9 b10 b11 b12 b13 b14 b15, e = .returned (.agg #[.bool six, .int .u8 b0, .int .u8 b1, .int .u8 b2, .int .u8 b3, .int .u8 b4, .int .u8 b5, .int .u8 b6, .int .u8 b7, .int .u8 b8, .int .u8 b9, .int .u8 b10, .int .u8 b11, .int .u8 b12, .int .u8 b13, .int .u8 b14, .int .u8 b15]) ∧ (∀ x ∈ [b0, b1, b2, b3, b4, b5, b6, b7, b8, b9, b10, b11, b12, b13, b14, b15], 0 ≤ x ∧ x ≤ 255) ∧ validA six [b0, b1, b2, b3, b4, b5, b6, b7, b8, b9, b10, b11, b12, b13, b14, b15] = true) ∧ Ch [] w w' := by
  obtain ⟨h0, h1⟩ := modI_rng n 14 (by omega)
  have M1 := hid (fun w => genMod n 14 w (by omega) (by omega))
  generalize modI n 14 = k at h0 h1 M1
  obtain ⟨y, hy⟩ : ∃ y, n / 16 % 256 = y := ⟨_, rfl⟩
  have y0 : 0 ≤ y ∧ y ≤ 255 := by omega
  obtain rfl | rfl | rfl | rfl | rfl | rfl | rfl | rfl | rfl | rfl | rfl | rfl | rfl | rfl : k = 0 ∨ k = 1 ∨ k = 2 ∨ k = 3 ∨ k = 4 ∨ k = 5 ∨ k = 6 ∨ k = 7 ∨ k = 8 ∨ k = 9 ∨ k = 10 ∨ k = 11 ∨ k = 12 ∨ k = 13 := by omega
  all_goals
    go_enter Tryd.func30, Tryd.ntmps30
    go_wp2_with (first
      | (refine wpList_storeB rfl 24 _ _ rfl w.heap.size 24 (addrC false zeros) (addrC _ [_, _, _, _, _, _, _, _, _, _, _, _, _, _, _, _]) rfl rfl B3 addr_info rfl rfl ?_; intro w2 B2 C2 Z2; have CE := C3.step C2 (fun i hi => .inr (by simp at hi; omega)))
      | (refine wpList_storeB rfl 24 _ _ rfl w.heap.size 24 (addrC false zeros) (addrC _ [_, _, _, _, _, _, _, _, _, _, _, _, _, _, _, _]) rfl rfl (Blk.new _ _ _) addr_info rfl rfl ?_; intro w2 B2 C2 Z2; have CE := ((Ch.refl [] w).alloc _).step C2 (fun i hi => .inr (by simp at hi; omega)))
      | (go_at_call 39; (with_reducible refine (v4R _ _ _ _ _).mono ?_); rintro e w3 ⟨rfl, C4⟩; have B3 := (Blk.new w 24 (addrC false zeros)).ch C4 (by simp); have C3 := ((Ch.refl [] w).alloc _).trans C4)
      | (go_at_call 22; (with_reducible refine (M1.out _).mono ?_); rintro e w2 ⟨rfl, rfl⟩))
    try simp only [Exit.inBlock, Exit.then]
    refine bodyPost_ret (results_row1 rfl _ _ rfl B2 Tryd.underlying24 rfl addr_info) rfl ?_
    refine ⟨⟨_, _, _, _, _, _, _, _, _, _, _, _, _, _, _, _, _, rfl, ?_, rfl⟩, CE⟩
    intro x hx
    simp only [List.mem_cons, List.not_mem_nil, or_false] at hx
    omega

set_option maxRecDepth 100000 in
set_option maxHeartbeats 4000000 in
theorem genTarget (n : Int) (w : World) : Calls Tryd.prog 13 #[.int .i64 n] w fun e w' => (∃ t : Tgt, e = .returned (.agg (tgtC t).toArray) ∧ GoodT t ∧ okT t = true ∧ backT t = t) ∧ Ch [] w w' := by
  obtain ⟨h0, h1⟩ := modI_rng n 3 (by omega)
  have M1 := hid (fun w => genMod n 3 w (by omega) (by omega))
  generalize modI n 3 = k at h0 h1 M1
  by_cases hk : k = 0
  · subst hk
    go_enter Tryd.func13, Tryd.ntmps13
    go_wp2_with (first
      | (refine wpList_storeB rfl 26 _ _ rfl w.heap.size 26 (tgtC tgt0) (tgtC (⟨#[]⟩, six, [b0, b1, b2, b3, b4, b5, b6, b7, b8, b9, b10, b11, b12, b13, b14, b15], p)) rfl rfl B3 (tgt_inf rfl) rfl rfl ?_; intro w4 B4 C4 Z4; have CE := C3.step C4 (fun i hi => .inr (by simp at hi; omega)))
      | (go_at_call 22; (with_reducible refine (M1.out _).mono ?_); rintro e w2 ⟨rfl, rfl⟩)
      | (go_at_call 30; (with_reducible refine (genAddr _ _).mono ?_); rintro e w3 ⟨⟨six, b0, b1, b2, b3, b4, b5, b6, b7, b8, b9, b10, b11, b12, b13, b14, b15, rfl, hby, hva⟩, C2⟩; have B3 := (Blk.new w 26 (tgtC tgt0)).ch C2 (by simp); have C3 := ((Ch.refl [] w).alloc _).trans C2; have HBY := hid hby; have HVA := hid hva; clear hby hva)
      | (go_at_call 31; (with_reducible refine (genPort _ _).mono ?_); rintro e w2 ⟨⟨p, rfl, hp0, hp1⟩, rfl⟩))
    try simp only [Exit.inBlock, Exit.then]
    refine bodyPost_ret (results_row1 rfl _ _ rfl B4 Tryd.underlying26 rfl (tgt_inf rfl)) rfl ?_
    refine ⟨⟨_, rfl, ⟨rfl, HBY.out⟩, ?_, rfl⟩, CE⟩
    simp only [okT, Bool.and_eq_true, decide_eq_true_eq]
    exact ⟨⟨⟨by decide, HVA.out⟩, by omega⟩, by omega⟩
  · have d : (k == 0) = false := by simpa using hk
    clear hk
    go_enter Tryd.func13, Tryd.ntmps13
    go_wp2_with (first
      | (refine wpList_storeB rfl 26 _ _ rfl w.heap.size 26 (tgtC tgt0) (tgtC (s, false, zeros, p)) rfl rfl (Blk.new _ _ _) (tgt_inf rfl) rfl rfl ?_; intro w4 B4 C4 Z4; have CE := ((Ch.refl [] w).alloc _).step C4 (fun i hi => .inr (by simp at hi; omega)))
      | (go_at_call 22; (with_reducible refine (M1.out _).mono ?_); rintro e w2 ⟨rfl, rfl⟩)
      | (go_at_call 23; (with_reducible refine (genHost _ _).mono ?_); rintro e w2 ⟨⟨s, rfl, hs0, hs1⟩, rfl⟩)
      | (go_at_call 31; (with_reducible refine (genPort _ _).mono ?_); rintro e w2 ⟨⟨p, rfl, hp0, hp1⟩, rfl⟩))
    try simp only [Exit.inBlock, Exit.then]
    refine bodyPost_ret (results_row1 rfl _ _ rfl B4 Tryd.underlying26 rfl (tgt_inf rfl)) rfl ?_
    refine ⟨⟨_, rfl, ⟨rfl, good0.2⟩, ?_, ?_⟩, CE⟩
    · simp only [okT, Bool.and_eq_true, decide_eq_true_eq]
      exact ⟨⟨⟨by omega, rfl⟩, by omega⟩, by omega⟩
    · unfold backT
      rw [if_pos (by show s.size ≠ 0; omega)]
end Go.Proofs.YtiffpjlmgeklkaaDoor
