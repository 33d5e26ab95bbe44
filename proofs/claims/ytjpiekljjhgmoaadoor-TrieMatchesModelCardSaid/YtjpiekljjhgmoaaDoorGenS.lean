/- ginnelgen.ValidAddr, SomeAddr, Addr: addresses that are valid, whatever they are made of. -/
import Derived.Test.YtjpiekljjhgmoaaDoorMB
import Derived.Test.YtjpiekljjhgmoaaDoorMC
import Derived.Test.YtjpiekljjhgmoaaDoorMD
namespace Go.Proofs.YtjpiekljjhgmoaaDoor
open Go.RowKit

def vldA (six : Bool) (bs : List Int) : List Int := if six then bs else bs.take 4 ++ [0, 0, 0, 0, 0, 0, 0, 0, 0, 0, 0, 0]
theorem vldA_good {six : Bool} {bs : List Int} (h : GoodA bs) : GoodA (vldA six bs) ∧ validA six (vldA six bs) = true := by
  obtain ⟨b0, b1, b2, b3, b4, b5, b6, b7, b8, b9, b10, b11, b12, b13, b14, b15, rfl⟩ := len16 h.1
  obtain ⟨_, hb⟩ := h
  cases six
  · refine ⟨⟨rfl, fun x hx => ?_⟩, rfl⟩
    simp only [vldA, List.take_succ_cons, List.take_zero, List.cons_append, List.nil_append, Bool.false_eq_true, if_false, List.mem_cons, List.not_mem_nil, or_false] at hx
    simp only [List.mem_cons, List.not_mem_nil, or_false, forall_eq_or_imp, forall_eq] at hb
    omega
  · exact ⟨⟨rfl, hb⟩, rfl⟩
theorem genAddrG (n : Int) (w : World) : Calls Tryd.prog 53 #[.int .i64 n] w fun e w' => (∃ six bs, e = .returned (.agg (addrC six bs).toArray) ∧ GoodA bs ∧ validA six bs = true) ∧ Ch [] w w' :=
  (genAddr n w).mono fun _ _ ⟨⟨six, b0, b1, b2, b3, b4, b5, b6, b7, b8, b9, b10, b11, b12, b13, b14, b15, h1, h2, h3⟩, hc⟩ => ⟨⟨six, [b0, b1, b2, b3, b4, b5, b6, b7, b8, b9, b10, b11, b12, b13, b14, b15], h1, ⟨rfl, h2⟩, h3⟩, hc⟩

set_option maxRecDepth 20000 in
set_option maxHeartbeats 4000000 in
theorem genValid (six : Bool) (bs : List Int) (hg : GoodA bs) (w : World) : Calls Tryd.prog 8 #[.agg (addrC six bs).toArray] w fun e w' => e = .returned (.agg (addrC six (vldA six bs)).toArray) ∧ Ch [] w w' := by
  obtain ⟨b0, b1, b2, b3, b4, b5, b6, b7, b8, b9, b10, b11, b12, b13, b14, b15, rfl⟩ := len16 hg.1
  have HI := hid (addr_inf (six := false) (bs := [b0, b1, b2, b3, 0, 0, 0, 0, 0, 0, 0, 0, 0, 0, 0, 0]) rfl)
  have HI2 := hid (addr_inf (six := true) (bs := [b0, b1, b2, b3, b4, b5, b6, b7, b8, b9, b10, b11, b12, b13, b14, b15]) rfl)
  clear hg
  cases six
  · show Calls Tryd.prog 8 #[.agg #[.bool false, .int .u8 b0, .int .u8 b1, .int .u8 b2, .int .u8 b3, .int .u8 b4, .int .u8 b5, .int .u8 b6, .int .u8 b7, .int .u8 b8, .int .u8 b9, .int .u8 b10, .int .u8 b11, .int .u8 b12, .int .u8 b13, .int .u8 b14, .int .u8 b15]] w fun e w' => e = .returned (.agg (addrC false [b0, b1, b2, b3, 0, 0, 0, 0, 0, 0, 0, 0, 0, 0, 0, 0]).toArray) ∧ Ch [] w w'
    go_enter Tryd.func8, Tryd.ntmps8
    have HI3 : (Tryd.prog.info? 22).map (·.size) = some 16 := by kernel_rfl
    have hB1 : Blk ((w.alloc (.cells #[.bool false, .int .u8 b0, .int .u8 b1, .int .u8 b2, .int .u8 b3, .int .u8 b4, .int .u8 b5, .int .u8 b6, .int .u8 b7, .int .u8 b8, .int .u8 b9, .int .u8 b10, .int .u8 b11, .int .u8 b12, .int .u8 b13, .int .u8 b14, .int .u8 b15] 24)).alloc (.cells #[.bool false, .int .u8 0, .int .u8 0, .int .u8 0, .int .u8 0, .int .u8 0, .int .u8 0, .int .u8 0, .int .u8 0, .int .u8 0, .int .u8 0, .int .u8 0, .int .u8 0, .int .u8 0, .int .u8 0, .int .u8 0, .int .u8 0] 24)) w.heap.size 24 (addrC false [b0, b1, b2, b3, b4, b5, b6, b7, b8, b9, b10, b11, b12, b13, b14, b15]) := (Blk.new w 24 (addrC false [b0, b1, b2, b3, b4, b5, b6, b7, b8, b9, b10, b11, b12, b13, b14, b15])).alloc _
    have hB2 : Blk ((w.alloc (.cells #[.bool false, .int .u8 b0, .int .u8 b1, .int .u8 b2, .int .u8 b3, .int .u8 b4, .int .u8 b5, .int .u8 b6, .int .u8 b7, .int .u8 b8, .int .u8 b9, .int .u8 b10, .int .u8 b11, .int .u8 b12, .int .u8 b13, .int .u8 b14, .int .u8 b15] 24)).alloc (.cells #[.bool false, .int .u8 0, .int .u8 0, .int .u8 0, .int .u8 0, .int .u8 0, .int .u8 0, .int .u8 0, .int .u8 0, .int .u8 0, .int .u8 0, .int .u8 0, .int .u8 0, .int .u8 0, .int .u8 0, .int .u8 0, .int .u8 0] 24)) (w.heap.size + 1) 24 (addrC false zeros) := Blk.newAt (w.alloc (.cells #[.bool false, .int .u8 b0, .int .u8 b1, .int .u8 b2, .int .u8 b3, .int .u8 b4, .int .u8 b5, .int .u8 b6, .int .u8 b7, .int .u8 b8, .int .u8 b9, .int .u8 b10, .int .u8 b11, .int .u8 b12, .int .u8 b13, .int .u8 b14, .int .u8 b15] 24)) 24 (addrC false zeros) (by simp)
    have hC : Ch [] w ((w.alloc (.cells #[.bool false, .int .u8 b0, .int .u8 b1, .int .u8 b2, .int .u8 b3, .int .u8 b4, .int .u8 b5, .int .u8 b6, .int .u8 b7, .int .u8 b8, .int .u8 b9, .int .u8 b10, .int .u8 b11, .int .u8 b12, .int .u8 b13, .int .u8 b14, .int .u8 b15] 24)).alloc (.cells #[.bool false, .int .u8 0, .int .u8 0, .int .u8 0, .int .u8 0, .int .u8 0, .int .u8 0, .int .u8 0, .int .u8 0, .int .u8 0, .int .u8 0, .int .u8 0, .int .u8 0, .int .u8 0, .int .u8 0, .int .u8 0, .int .u8 0] 24)) := ((Ch.refl _ _).alloc _).alloc _
    go_wp2_with (first
      | (refine wpList_storeM rfl 22 _ _ rfl w.heap.size 1 24 (addrC false [b0, b1, b2, b3, b4, b5, b6, b7, b8, b9, b10, b11, b12, b13, b14, b15]) [.int .u8 b0, .int .u8 b1, .int .u8 b2, .int .u8 b3, .int .u8 0, .int .u8 0, .int .u8 0, .int .u8 0, .int .u8 0, .int .u8 0, .int .u8 0, .int .u8 0, .int .u8 0, .int .u8 0, .int .u8 0, .int .u8 0] (addrC false [b0, b1, b2, b3, 0, 0, 0, 0, 0, 0, 0, 0, 0, 0, 0, 0]) ?_ ?_ ?_ ?_ ?_ ?_ ?_ ?_; rfl; rfl; exact hB1; rfl; (show 1 + 16 ≤ 17; omega); exact HI3; rfl; intro w3 B3 C3 Z3; have B4 := hB2.ch C3 (by simp); have CC := hC.step C3 (fun i hi => .inr (by simp at hi; omega)))
      | (refine wpList_loadB rfl 24 _ rfl w.heap.size 24 (addrC false [b0, b1, b2, b3, 0, 0, 0, 0, 0, 0, 0, 0, 0, 0, 0, 0]) _ rfl B3 Tryd.underlying24 rfl HI.out ?_)
      | (refine wpList_storeB rfl 24 _ _ rfl (w.heap.size + 1) 24 (addrC false zeros) (addrC false [b0, b1, b2, b3, 0, 0, 0, 0, 0, 0, 0, 0, 0, 0, 0, 0]) rfl rfl B4 HI.out rfl (addr_one' _ _) ?_; intro w5 B5 C5 Z5))
    try simp only [Exit.inBlock, Exit.then]
    refine bodyPost_ret (results_row1 rfl _ _ rfl B5 Tryd.underlying24 rfl HI.out) rfl ?_
    exact ⟨rfl, CC.step C5 (fun i hi => .inr (by simp at hi; omega))⟩
  · show Calls Tryd.prog 8 #[.agg #[.bool true, .int .u8 b0, .int .u8 b1, .int .u8 b2, .int .u8 b3, .int .u8 b4, .int .u8 b5, .int .u8 b6, .int .u8 b7, .int .u8 b8, .int .u8 b9, .int .u8 b10, .int .u8 b11, .int .u8 b12, .int .u8 b13, .int .u8 b14, .int .u8 b15]] w fun e w' => e = .returned (.agg (addrC true [b0, b1, b2, b3, b4, b5, b6, b7, b8, b9, b10, b11, b12, b13, b14, b15]).toArray) ∧ Ch [] w w'
    go_enter Tryd.func8, Tryd.ntmps8
    go_wp2_with (first
      | (refine wpList_storeB rfl 24 _ _ rfl (w.heap.size + 1) 24 (addrC false zeros) (addrC true [b0, b1, b2, b3, b4, b5, b6, b7, b8, b9, b10, b11, b12, b13, b14, b15]) rfl rfl (Blk.newAt _ _ _ (by simp)) HI2.out rfl (addr_one' _ _) ?_; intro w5 B5 C5 Z5))
    try simp only [Exit.inBlock, Exit.then]
    refine bodyPost_ret (results_row1 rfl _ _ rfl B5 Tryd.underlying24 rfl HI2.out) rfl ?_
    exact ⟨rfl, (((Ch.refl [] w).alloc _).alloc _).step C5 (fun i hi => .inr (by simp at hi; omega))⟩
end Go.Proofs.YtjpiekljjhgmoaaDoor
