/- Several texts in one: GenS, GenD, TrCm, TrGp, AclV, AclW. -/
import Derived.Test.YtbmbnibamhgfmaaDoorMB
import Derived.Test.YtbmbnibamhgfmaaDoorMC
import Derived.Test.YtbmbnibamhgfmaaDoorMD
import Derived.Test.YtbmbnibamhgfmaaDoorMF
import Derived.Test.YtbmbnibamhgfmaaDoorMH
import Derived.Deep.DeepCutAuto
import Derived.Deep.CutRange
/- ginnelgen.ValidAddr, SomeAddr, Addr: addresses that are valid, whatever they are made of. -/
namespace Go.Proofs.YtbmbnibamhgfmaaDoor
open Go.RowKit

def vldA (six : Bool) (bs : List Int) : List Int := if six then bs else bs.take 4 ++ [0, 0, 0, 0, 0, 0, 0, 0, 0, 0, 0, 0]
theorem vldA_good {six : Bool} {bs : List Int} (h : GoodA bs) : GoodA (vldA six bs) ∧ validA six (vldA six bs) = true := by
  obtain ⟨b0, b1, b2, b3, b4, b5, b6, b7, b8, b9, b10, b11, b12, b13, b14, b15, rfl⟩ := len16 h.1
  obtain ⟨_, hb⟩ := h
  cases six
  · refine ⟨⟨rfl, fun x hx => ?_⟩, rfl⟩
    simp only [vldA, List.take_succ_cons, List.take_zero, List.cons_append, List.nil_append, Bool.false_eq_true, if_false, List.mem_cons, List.not_mem_nil, or_false] at hx
    simp only [List.mem_cons, List.not_mem_nil, or_false, forall_eq_or_imp, forall_eq] at hb
    omega
  · exact ⟨⟨rfl, hb⟩, rfl⟩
theorem genAddrG (n : Int) (w : World) : Calls Tryd.prog 87 #[.int .i64 n] w fun e w' => (∃ six bs, e = .returned (.agg (addrC six bs).toArray) ∧ GoodA bs ∧ validA six bs = true) ∧ Ch [] w w' :=
  (genAddr n w).mono fun _ _ ⟨⟨six, b0, b1, b2, b3, b4, b5, b6, b7, b8, b9, b10, b11, b12, b13, b14, b15, h1, h2, h3⟩, hc⟩ => ⟨⟨six, [b0, b1, b2, b3, b4, b5, b6, b7, b8, b9, b10, b11, b12, b13, b14, b15], h1, ⟨rfl, h2⟩, h3⟩, hc⟩

set_option maxRecDepth 20000 in
set_option maxHeartbeats 4000000 in
theorem genValid (six : Bool) (bs : List Int) (hg : GoodA bs) (w : World) : Calls Tryd.prog 66 #[.agg (addrC six bs).toArray] w fun e w' => e = .returned (.agg (addrC six (vldA six bs)).toArray) ∧ Ch [] w w' := by
  obtain ⟨b0, b1, b2, b3, b4, b5, b6, b7, b8, b9, b10, b11, b12, b13, b14, b15, rfl⟩ := len16 hg.1
  have HI := hid (addr_inf (six := false) (bs := [b0, b1, b2, b3, 0, 0, 0, 0, 0, 0, 0, 0, 0, 0, 0, 0]) rfl)
  have HI2 := hid (addr_inf (six := true) (bs := [b0, b1, b2, b3, b4, b5, b6, b7, b8, b9, b10, b11, b12, b13, b14, b15]) rfl)
  clear hg
  cases six
  · show Calls Tryd.prog 66 #[.agg #[.bool false, .int .u8 b0, .int .u8 b1, .int .u8 b2, .int .u8 b3, .int .u8 b4, .int .u8 b5, .int .u8 b6, .int .u8 b7, .int .u8 b8, .int .u8 b9, .int .u8 b10, .int .u8 b11, .int .u8 b12, .int .u8 b13, .int .u8 b14, .int .u8 b15]] w fun e w' => e = .returned (.agg (addrC false [b0, b1, b2, b3, 0, 0, 0, 0, 0, 0, 0, 0, 0, 0, 0, 0]).toArray) ∧ Ch [] w w'
    go_enter Tryd.func66, Tryd.ntmps66
    have HI3 : (Tryd.prog.info? 55).map (·.size) = some 16 := by kernel_rfl
    have hB1 : Blk ((w.alloc (.cells #[.bool false, .int .u8 b0, .int .u8 b1, .int .u8 b2, .int .u8 b3, .int .u8 b4, .int .u8 b5, .int .u8 b6, .int .u8 b7, .int .u8 b8, .int .u8 b9, .int .u8 b10, .int .u8 b11, .int .u8 b12, .int .u8 b13, .int .u8 b14, .int .u8 b15] 57)).alloc (.cells #[.bool false, .int .u8 0, .int .u8 0, .int .u8 0, .int .u8 0, .int .u8 0, .int .u8 0, .int .u8 0, .int .u8 0, .int .u8 0, .int .u8 0, .int .u8 0, .int .u8 0, .int .u8 0, .int .u8 0, .int .u8 0, .int .u8 0] 57)) w.heap.size 57 (addrC false [b0, b1, b2, b3, b4, b5, b6, b7, b8, b9, b10, b11, b12, b13, b14, b15]) := (Blk.new w 57 (addrC false [b0, b1, b2, b3, b4, b5, b6, b7, b8, b9, b10, b11, b12, b13, b14, b15])).alloc _
    have hB2 : Blk ((w.alloc (.cells #[.bool false, .int .u8 b0, .int .u8 b1, .int .u8 b2, .int .u8 b3, .int .u8 b4, .int .u8 b5, .int .u8 b6, .int .u8 b7, .int .u8 b8, .int .u8 b9, .int .u8 b10, .int .u8 b11, .int .u8 b12, .int .u8 b13, .int .u8 b14, .int .u8 b15] 57)).alloc (.cells #[.bool false, .int .u8 0, .int .u8 0, .int .u8 0, .int .u8 0, .int .u8 0, .int .u8 0, .int .u8 0, .int .u8 0, .int .u8 0, .int .u8 0, .int .u8 0, .int .u8 0, .int .u8 0, .int .u8 0, .int .u8 0, .int .u8 0] 57)) (w.heap.size + 1) 57 (addrC false zeros) := Blk.newAt (w.alloc (.cells #[.bool false, .int .u8 b0, .int .u8 b1, .int .u8 b2, .int .u8 b3, .int .u8 b4, .int .u8 b5, .int .u8 b6, .int .u8 b7, .int .u8 b8, .int .u8 b9, .int .u8 b10, .int .u8 b11, .int .u8 b12, .int .u8 b13, .int .u8 b14, .int .u8 b15] 57)) 57 (addrC false zeros) (by simp)
    have hC : Ch [] w ((w.alloc (.cells #[.bool false, .int .u8 b0, .int .u8 b1, .int .u8 b2, .int .u8 b3, .int .u8 b4, .int .u8 b5, .int .u8 b6, .int .u8 b7, .int .u8 b8, .int .u8 b9, .int .u8 b10, .int .u8 b11, .int .u8 b12, .int .u8 b13, .int .u8 b14, .int .u8 b15] 57)).alloc (.cells #[.bool false, .int .u8 0, .int .u8 0, .int .u8 0, .int .u8 0, .int .u8 0, .int .u8 0, .int .u8 0, .int .u8 0, .int .u8 0, .int .u8 0, .int .u8 0, .int .u8 0, .int .u8 0, .int .u8 0, .int .u8 0, .int .u8 0] 57)) := ((Ch.refl _ _).alloc _).alloc _
    go_wp2_with (first
      | (refine wpList_storeM rfl 55 _ _ rfl w.heap.size 1 57 (addrC false [b0, b1, b2, b3, b4, b5, b6, b7, b8, b9, b10, b11, b12, b13, b14, b15]) [.int .u8 b0, .int .u8 b1, .int .u8 b2, .int .u8 b3, .int .u8 0, .int .u8 0, .int .u8 0, .int .u8 0, .int .u8 0, .int .u8 0, .int .u8 0, .int .u8 0, .int .u8 0, .int .u8 0, .int .u8 0, .int .u8 0] (addrC false [b0, b1, b2, b3, 0, 0, 0, 0, 0, 0, 0, 0, 0, 0, 0, 0]) ?_ ?_ ?_ ?_ ?_ ?_ ?_ ?_; rfl; rfl; exact hB1; rfl; (show 1 + 16 ≤ 17; omega); exact HI3; rfl; intro w3 B3 C3 Z3; have B4 := hB2.ch C3 (by simp); have CC := hC.step C3 (fun i hi => .inr (by simp at hi; omega)))
      | (refine wpList_loadB rfl 57 _ rfl w.heap.size 57 (addrC false [b0, b1, b2, b3, 0, 0, 0, 0, 0, 0, 0, 0, 0, 0, 0, 0]) _ rfl B3 Tryd.underlying57 rfl HI.out ?_)
      | (refine wpList_storeB rfl 57 _ _ rfl (w.heap.size + 1) 57 (addrC false zeros) (addrC false [b0, b1, b2, b3, 0, 0, 0, 0, 0, 0, 0, 0, 0, 0, 0, 0]) rfl rfl B4 HI.out rfl (addr_one' _ _) ?_; intro w5 B5 C5 Z5))
    try simp only [Exit.inBlock, Exit.then]
    refine bodyPost_ret (results_row1 rfl _ _ rfl B5 Tryd.underlying57 rfl HI.out) rfl ?_
    exact ⟨rfl, CC.step C5 (fun i hi => .inr (by simp at hi; omega))⟩
  · show Calls Tryd.prog 66 #[.agg #[.bool true, .int .u8 b0, .int .u8 b1, .int .u8 b2, .int .u8 b3, .int .u8 b4, .int .u8 b5, .int .u8 b6, .int .u8 b7, .int .u8 b8, .int .u8 b9, .int .u8 b10, .int .u8 b11, .int .u8 b12, .int .u8 b13, .int .u8 b14, .int .u8 b15]] w fun e w' => e = .returned (.agg (addrC true [b0, b1, b2, b3, b4, b5, b6, b7, b8, b9, b10, b11, b12, b13, b14, b15]).toArray) ∧ Ch [] w w'
    go_enter Tryd.func66, Tryd.ntmps66
    go_wp2_with (first
      | (refine wpList_storeB rfl 57 _ _ rfl (w.heap.size + 1) 57 (addrC false zeros) (addrC true [b0, b1, b2, b3, b4, b5, b6, b7, b8, b9, b10, b11, b12, b13, b14, b15]) rfl rfl (Blk.newAt _ _ _ (by simp)) HI2.out rfl (addr_one' _ _) ?_; intro w5 B5 C5 Z5))
    try simp only [Exit.inBlock, Exit.then]
    refine bodyPost_ret (results_row1 rfl _ _ rfl B5 Tryd.underlying57 rfl HI2.out) rfl ?_
    exact ⟨rfl, (((Ch.refl [] w).alloc _).alloc _).step C5 (fun i hi => .inr (by simp at hi; omega))⟩
end Go.Proofs.YtbmbnibamhgfmaaDoor

/- ginnelgen.Addr and SomeAddr as functions of their arguments. -/
namespace Go.Proofs.YtbmbnibamhgfmaaDoor
open Go.RowKit

def addrK (k y : Int) : Bool × List Int :=
  if k = 0 then (false, [8, 8, 8, 8, 0, 0, 0, 0, 0, 0, 0, 0, 0, 0, 0, 0]) else
  if k = 1 then (false, [8, 8, 4, 4, 0, 0, 0, 0, 0, 0, 0, 0, 0, 0, 0, 0]) else
  if k = 2 then (false, [9, 1, 2, 3, 0, 0, 0, 0, 0, 0, 0, 0, 0, 0, 0, 0]) else
  if k = 3 then (false, [10, 0, 0, 1, 0, 0, 0, 0, 0, 0, 0, 0, 0, 0, 0, 0]) else
  if k = 4 then (false, [127, 0, 0, 1, 0, 0, 0, 0, 0, 0, 0, 0, 0, 0, 0, 0]) else
  if k = 5 then (false, [8, 9, 0, y, 0, 0, 0, 0, 0, 0, 0, 0, 0, 0, 0, 0]) else
  if k = 6 then (true, [32, 1, 13, 184, 0, 0, 0, 0, 0, 0, 0, 0, 0, 0, 0, y]) else
  if k = 7 then (true, [42, 0, 0, 0, 0, 0, 0, 0, 0, 0, 0, 0, 0, 0, 0, 5]) else
  if k = 8 then (true, [254, 128, 0, 0, 0, 0, 0, 0, 0, 0, 0, 0, 0, 0, 0, 1]) else
  if k = 9 then (true, [0, 0, 0, 0, 0, 0, 0, 0, 0, 0, 255, 255, 8, 8, 8, 8]) else
  if k = 10 then (true, [32, 2, 0, 0, 0, 0, 0, 0, 0, 0, 0, 0, 0, 0, 0, 1]) else
  if k = 11 then (true, [0, 0, 0, 0, 0, 0, 0, 0, 0, 0, 0, 0, 0, 0, 0, 1]) else
  if k = 12 then (true, [32, 1, 0, 0, 0, 0, 0, 0, 0, 0, 0, 0, 0, 0, 0, y]) else
  (true, [42, 0, 0, 0, 0, 0, 0, 0, 0, 0, 0, 0, 0, 0, 0, y])
def addrN (n : Int) : Bool × List Int := addrK (modI n 14) (n / 16 % 256)
def OkA (r : Bool × List Int) : Prop := GoodA r.2 ∧ validA r.1 r.2 = true
theorem okA_ite {c : Prop} [Decidable c] {a b : Bool × List Int} (ha : OkA a) (hb : OkA b) : OkA (if c then a else b) := by split <;> assumption
theorem okA_mk (six : Bool) (l : List Int) (y : Int) (hy : 0 ≤ y ∧ y ≤ 255) (hl : l.length = 16) (hx : ∀ x ∈ l, x = y ∨ 0 ≤ x ∧ x ≤ 255) (hv : validA six l = true) : OkA (six, l) :=
  ⟨⟨hl, fun x hm => by rcases hx x hm with rfl | h; exact hy; exact h⟩, hv⟩
theorem addrK_good (k y : Int) (hy : 0 ≤ y ∧ y ≤ 255) : OkA (addrK k y) := by
  unfold addrK
  repeat' (refine okA_ite ?_ ?_)
  all_goals exact okA_mk _ _ y hy rfl (by intro x hx; simp only [List.mem_cons, List.not_mem_nil, or_false] at hx; omega) rfl
theorem addrN_good (n : Int) : GoodA (addrN n).2 ∧ validA (addrN n).1 (addrN n).2 = true := addrK_good _ _ (by omega)
set_option maxRecDepth 100000 in
set_option maxHeartbeats 8000000 in
theorem genAddrN (n : Int) (w : World) : Calls Tryd.prog 87 #[.int .i64 n] w fun e w' => e = .returned (.agg (addrC (addrN n).1 (addrN n).2).toArray) ∧ Ch [] w w' := by
  obtain ⟨h0, h1⟩ := modI_rng n 14 (by omega)
  have M1 := hid (fun w => genMod n 14 w (by omega) (by omega))
  unfold addrN
  generalize modI n 14 = k at h0 h1 M1 ⊢
  obtain ⟨y, hy⟩ : ∃ y, n / 16 % 256 = y := ⟨_, rfl⟩
  have y0 : 0 ≤ y ∧ y ≤ 255 := by omega
  obtain rfl | rfl | rfl | rfl | rfl | rfl | rfl | rfl | rfl | rfl | rfl | rfl | rfl | rfl : k = 0 ∨ k = 1 ∨ k = 2 ∨ k = 3 ∨ k = 4 ∨ k = 5 ∨ k = 6 ∨ k = 7 ∨ k = 8 ∨ k = 9 ∨ k = 10 ∨ k = 11 ∨ k = 12 ∨ k = 13 := by omega
  all_goals
    go_enter Tryd.func87, Tryd.ntmps87
    go_wp2_with (first
      | (refine wpList_storeB rfl 57 _ _ rfl w.heap.size 57 (addrC false zeros) (addrC _ [_, _, _, _, _, _, _, _, _, _, _, _, _, _, _, _]) rfl rfl B3 addr_info rfl rfl ?_; intro w2 B2 C2 Z2; have CE := C3.step C2 (fun i hi => .inr (by simp at hi; omega)))
      | (refine wpList_storeB rfl 57 _ _ rfl w.heap.size 57 (addrC false zeros) (addrC _ [_, _, _, _, _, _, _, _, _, _, _, _, _, _, _, _]) rfl rfl (Blk.new _ _ _) addr_info rfl rfl ?_; intro w2 B2 C2 Z2; have CE := ((Ch.refl [] w).alloc _).step C2 (fun i hi => .inr (by simp at hi; omega)))
      | (go_at_call 48; (with_reducible refine (v4R _ _ _ _ _).mono ?_); rintro e w3 ⟨rfl, C4⟩; have B3 := (Blk.new w 57 (addrC false zeros)).ch C4 (by simp); have C3 := ((Ch.refl [] w).alloc _).trans C4)
      | (go_at_call 9; (with_reducible refine (M1.out _).mono ?_); rintro e w2 ⟨rfl, rfl⟩))
    try simp only [Exit.inBlock, Exit.then]
    refine bodyPost_ret (results_row1 rfl _ _ rfl B2 Tryd.underlying57 rfl addr_info) rfl ?_
    exact ⟨by (try rw [hy]); rfl, CE⟩

def someA (six : Bool) (bs : List Int) : Bool × List Int :=
  if at_ bs 7 % 5 = 0 then (six, bs) else if at_ bs 7 % 5 = 1 then (six, vldA six bs) else addrN (bits .or .i64 (at_ bs 0) (at_ bs 1 * 256))
theorem someA_good {six : Bool} {bs : List Int} (h : GoodA bs) : GoodA (someA six bs).2 := by
  unfold someA
  split
  · exact h
  · split
    · exact (vldA_good h).1
    · exact (addrN_good _).1
set_option maxRecDepth 20000 in
set_option maxHeartbeats 4000000 in
theorem genSome (six : Bool) (bs : List Int) (hg : GoodA bs) (w : World) : Calls Tryd.prog 67 #[.agg (addrC six bs).toArray] w fun e w' => e = .returned (.agg (addrC (someA six bs).1 (someA six bs).2).toArray) ∧ Ch [] w w' := by
  have hB1 : Blk ((w.alloc (.cells (addrC six bs).toArray 57)).alloc (.cells #[.bool false, .int .u8 0, .int .u8 0, .int .u8 0, .int .u8 0, .int .u8 0, .int .u8 0, .int .u8 0, .int .u8 0, .int .u8 0, .int .u8 0, .int .u8 0, .int .u8 0, .int .u8 0, .int .u8 0, .int .u8 0, .int .u8 0] 57)) w.heap.size 57 (addrC six bs) := (Blk.new w _ _).alloc _
  have hB2 : Blk ((w.alloc (.cells (addrC six bs).toArray 57)).alloc (.cells #[.bool false, .int .u8 0, .int .u8 0, .int .u8 0, .int .u8 0, .int .u8 0, .int .u8 0, .int .u8 0, .int .u8 0, .int .u8 0, .int .u8 0, .int .u8 0, .int .u8 0, .int .u8 0, .int .u8 0, .int .u8 0, .int .u8 0] 57)) (w.heap.size + 1) 57 (addrC false zeros) := Blk.newAt _ _ (addrC false zeros) (by simp)
  have hC : Ch [] w ((w.alloc (.cells (addrC six bs).toArray 57)).alloc (.cells #[.bool false, .int .u8 0, .int .u8 0, .int .u8 0, .int .u8 0, .int .u8 0, .int .u8 0, .int .u8 0, .int .u8 0, .int .u8 0, .int .u8 0, .int .u8 0, .int .u8 0, .int .u8 0, .int .u8 0, .int .u8 0, .int .u8 0] 57)) := ((Ch.refl _ _).alloc _).alloc _
  have c7 : ((w.alloc (.cells (addrC six bs).toArray 57)).alloc (.cells #[.bool false, .int .u8 0, .int .u8 0, .int .u8 0, .int .u8 0, .int .u8 0, .int .u8 0, .int .u8 0, .int .u8 0, .int .u8 0, .int .u8 0, .int .u8 0, .int .u8 0, .int .u8 0, .int .u8 0, .int .u8 0, .int .u8 0] 57)).cell? ⟨w.heap.size, 8, none⟩ = some (.int .u8 (at_ bs 7)) := by rw [hB1.cell]; exact addrC_byte (k := 7) (by rw [hg.1]; omega)
  have c0 : ((w.alloc (.cells (addrC six bs).toArray 57)).alloc (.cells #[.bool false, .int .u8 0, .int .u8 0, .int .u8 0, .int .u8 0, .int .u8 0, .int .u8 0, .int .u8 0, .int .u8 0, .int .u8 0, .int .u8 0, .int .u8 0, .int .u8 0, .int .u8 0, .int .u8 0, .int .u8 0, .int .u8 0] 57)).cell? ⟨w.heap.size, 1, none⟩ = some (.int .u8 (at_ bs 0)) := by rw [hB1.cell]; exact addrC_byte (k := 0) (by rw [hg.1]; omega)
  have c1 : ((w.alloc (.cells (addrC six bs).toArray 57)).alloc (.cells #[.bool false, .int .u8 0, .int .u8 0, .int .u8 0, .int .u8 0, .int .u8 0, .int .u8 0, .int .u8 0, .int .u8 0, .int .u8 0, .int .u8 0, .int .u8 0, .int .u8 0, .int .u8 0, .int .u8 0, .int .u8 0, .int .u8 0] 57)).cell? ⟨w.heap.size, 2, none⟩ = some (.int .u8 (at_ bs 1)) := by rw [hB1.cell]; exact addrC_byte (k := 1) (by rw [hg.1]; omega)
  obtain ⟨x0, x1⟩ := hg.at (show 0 < 16 by omega)
  obtain ⟨y0, y1⟩ := hg.at (show 1 < 16 by omega)
  obtain ⟨z0, z1⟩ := hg.at (show 7 < 16 by omega)
  have HV := hid (genValid six bs hg)
  have HI := hid (addr_inf (six := six) hg.1)
  have HIV := hid (addr_inf (six := six) (vldA_good (six := six) hg).1.1)
  have HLV := hid (vldA_good (six := six) hg).1.1
  have HL := hid hg.1
  clear hg
  unfold someA
  by_cases h0 : at_ bs 7 % 5 = 0
  · rw [if_pos h0]
    obtain ⟨z, hz⟩ : ∃ z, at_ bs 7 = z := ⟨_, rfl⟩
    rw [hz] at c7 h0 z0 z1
    have d0 : (z % 5 == 0) = true := by simpa using h0
    clear h0 hz
    obtain ⟨vs, hvs⟩ : ∃ vs, (addrC six bs).toArray = vs := ⟨_, rfl⟩
    rw [hvs] at hB1 hB2 hC c7 c0 c1
    show Calls Tryd.prog 67 #[.agg (addrC six bs).toArray] w fun e w' => e = .returned (.agg (addrC six bs).toArray) ∧ Ch [] w w'
    have HVS := hid hvs
    rw [hvs]
    clear hvs
    go_enter Tryd.func67, Tryd.ntmps67
    go_wp2_with (first
      | (refine wpList_loadB rfl 57 _ rfl w.heap.size 57 (addrC six bs) _ rfl hB1 Tryd.underlying57 rfl HI.out ?_)
      | (refine wpList_storeB rfl 57 _ _ rfl (w.heap.size + 1) 57 (addrC false zeros) (addrC six bs) rfl rfl hB2 HI.out ((addr_len (six := false) (bs := zeros) rfl).trans (addr_len HL.out).symm) (addr_one' _ _) ?_; intro w5 B5 C5 Z5))
    try simp only [Exit.inBlock, Exit.then]
    refine bodyPost_ret (results_row1 rfl _ _ rfl B5 Tryd.underlying57 rfl HI.out) rfl ?_
    exact ⟨by rw [HVS.out], hC.step C5 (fun i hi => .inr (by simp at hi; omega))⟩
  · rw [if_neg h0]
    by_cases h1 : at_ bs 7 % 5 = 1
    · rw [if_pos h1]
      obtain ⟨z, hz⟩ : ∃ z, at_ bs 7 = z := ⟨_, rfl⟩
      rw [hz] at c7 h1 z0 z1
      have d0 : (z % 5 == 0) = false := by simp; omega
      have d1 : (z % 5 == 1) = true := by simpa using h1
      clear h0 h1 hz
      show Calls Tryd.prog 67 #[.agg (addrC six bs).toArray] w fun e w' => e = .returned (.agg (addrC six (vldA six bs)).toArray) ∧ Ch [] w w'
      go_enter Tryd.func67, Tryd.ntmps67
      go_wp2_with (first
        | (refine wpList_loadB rfl 57 _ rfl w.heap.size 57 (addrC six bs) _ rfl hB1 Tryd.underlying57 rfl HI.out ?_)
        | (go_at_call 66; (with_reducible refine (HV.out _).mono ?_); rintro e w3 ⟨rfl, C3⟩; have B3 := hB2.ch C3 (by simp); have CC3 := hC.trans C3)
        | (refine wpList_storeB rfl 57 _ _ rfl (w.heap.size + 1) 57 (addrC false zeros) (addrC six (vldA six bs)) rfl rfl B3 HIV.out ((addr_len (six := false) (bs := zeros) rfl).trans (addr_len HLV.out).symm) (addr_one' _ _) ?_; intro w5 B5 C5 Z5))
      try simp only [Exit.inBlock, Exit.then]
      refine bodyPost_ret (results_row1 rfl _ _ rfl B5 Tryd.underlying57 rfl HIV.out) rfl ?_
      exact ⟨rfl, CC3.step C5 (fun i hi => .inr (by simp at hi; omega))⟩
    · rw [if_neg h1]
      obtain ⟨z, hz⟩ : ∃ z, at_ bs 7 = z := ⟨_, rfl⟩
      rw [hz] at c7 h0 h1 z0 z1
      have d0 : (z % 5 == 0) = false := by simpa using h0
      have d1 : (z % 5 == 1) = false := by simpa using h1
      clear h0 h1 hz HV HIV HLV
      have HG := hid (addrN_good (bits .or .i64 (at_ bs 0) (at_ bs 1 * 256)))
      have HN := hid (genAddrN (bits .or .i64 (at_ bs 0) (at_ bs 1 * 256)))
      generalize addrN (bits .or .i64 (at_ bs 0) (at_ bs 1 * 256)) = r at HN HG ⊢
      obtain ⟨s6, rs⟩ := r
      obtain ⟨⟨hrl, _⟩, _⟩ := HG.out
      have HI2 := hid (addr_inf (six := s6) hrl)
      have HRL := hid hrl
      clear hrl
      generalize at_ bs 0 = x at c0 x0 x1 HN
      generalize at_ bs 1 = y at c1 y0 y1 HN
      show Calls Tryd.prog 67 #[.agg (addrC six bs).toArray] w fun e w' => e = .returned (.agg (addrC s6 rs).toArray) ∧ Ch [] w w'
      go_enter Tryd.func67, Tryd.ntmps67
      go_wp2_with (first
        | (go_at_call 87; (with_reducible refine (HN.out _).mono ?_); rintro e w3 ⟨rfl, C3⟩; have B3 := hB2.ch C3 (by simp); have CC3 := hC.trans C3)
        | (refine wpList_storeB rfl 57 _ _ rfl (w.heap.size + 1) 57 (addrC false zeros) (addrC s6 rs) rfl rfl B3 HI2.out ((addr_len (six := false) (bs := zeros) rfl).trans (addr_len HRL.out).symm) (addr_one' _ _) ?_; intro w5 B5 C5 Z5))
      try simp only [Exit.inBlock, Exit.then]
      refine bodyPost_ret (results_row1 rfl _ _ rfl B5 Tryd.underlying57 rfl HI2.out) rfl ?_
      exact ⟨rfl, CC3.step C5 (fun i hi => .inr (by simp at hi; omega))⟩
end Go.Proofs.YtbmbnibamhgfmaaDoor

/- The reference's Compare and ComparePrefix; gen.Prefix (printed by mk_trcm.py). -/
namespace Go.Proofs.YtbmbnibamhgfmaaDoor
open Go.RowKit
end Go.Proofs.YtbmbnibamhgfmaaDoor

/- gen.Prefix (printed by mk_trgp.py). -/
namespace Go.Proofs.YtbmbnibamhgfmaaDoor
open Go.RowKit

/-- The prefix that gen.Prefix gives. -/
def genP (p : Pfx) : Pfx :=
  let a := someA p.1 p.2.1
  let v := vldA a.1 a.2
  let k := modI p.2.2 (bitL a.1 + 1)
  (a.1, truncL v k, k)
theorem genP_ok {p : Pfx} (h : GoodA p.2.1) : OkP (genP p) := by
  have h1 := someA_good (six := p.1) h
  obtain ⟨h2, h3⟩ := vldA_good (six := (someA p.1 p.2.1).1) h1
  have hb : 0 ≤ bitL (someA p.1 p.2.1).1 := by cases (someA p.1 p.2.1).1 <;> decide
  obtain ⟨k0, k1⟩ := modI_rng p.2.2 (bitL (someA p.1 p.2.1).1 + 1) (by omega)
  obtain ⟨k, hk⟩ := Int.eq_ofNat_of_zero_le k0
  unfold genP
  simp only [hk]
  exact okP_of h2 h3 (by omega)
set_option maxRecDepth 20000 in
set_option maxHeartbeats 8000000 in
theorem genPfx (p : Pfx) (hg : GoodA p.2.1) (w : World) :
    Calls Tryd.prog 41 #[.agg (pfxC p).toArray] w fun e w' => e = .returned (.agg (pfxC (genP p)).toArray) ∧ Ch [] w w' := by
  have BP : Blk ((w.alloc (.cells (pfxC p).toArray 59)).alloc (.cells (pfxC (false, zeros, 0)).toArray 59)) w.heap.size 59 (pfxC p) := (Blk.new w _ _).alloc _
  have BR : Blk ((w.alloc (.cells (pfxC p).toArray 59)).alloc (.cells (pfxC (false, zeros, 0)).toArray 59)) (w.heap.size + 1) 59 (pfxC (false, zeros, 0)) := Blk.newAt _ _ _ (by simp)
  have CX : Ch [] w ((w.alloc (.cells (pfxC p).toArray 59)).alloc (.cells (pfxC (false, zeros, 0)).toArray 59)) := ((Ch.refl _ _).alloc _).alloc _
  have HA : Hid (∀ j v, (addrC p.1 p.2.1)[j]? = some v → (pfxC p)[0 + j]? = some v) := fun j v hj => pfx_addr (p := p) hj
  have H17 := hid (pfx_bits (p := p) hg.1)
  have HIA := hid (addr_inf (six := p.1) hg.1)
  have HSA := hid (genSome p.1 p.2.1 hg)
  have hok := genP_ok hg
  obtain ⟨pq, hpq⟩ : ∃ pq, genP p = pq := ⟨_, rfl⟩
  rw [hpq] at hok ⊢
  have hgp : genP p = ((someA p.1 p.2.1).1, truncL (vldA (someA p.1 p.2.1).1 (someA p.1 p.2.1).2) (modI p.2.2 (bitL (someA p.1 p.2.1).1 + 1)), modI p.2.2 (bitL (someA p.1 p.2.1).1 + 1)) := rfl
  rw [hgp] at hpq
  clear hgp
  have h1 := someA_good (six := p.1) hg
  generalize (someA p.1 p.2.1).1 = s2 at HSA h1 hpq
  generalize (someA p.1 p.2.1).2 = ys at HSA h1 hpq
  obtain ⟨h2, h3⟩ := vldA_good (six := s2) h1
  have HVA := hid (genValid s2 ys h1)
  generalize vldA s2 ys = xs at HVA h2 h3 hpq
  have hb0 : 0 ≤ bitL s2 := by cases s2 <;> decide
  have hb1 := bitL_le s2
  obtain ⟨k0, k1⟩ := modI_rng p.2.2 (bitL s2 + 1) (by omega)
  obtain ⟨k, hk⟩ := Int.eq_ofNat_of_zero_le k0
  have HBL := hid (bitLenR s2 xs)
  have HMD : Hid (∀ w, Calls Tryd.prog 9 #[.int .i64 p.2.2, .int .i64 (bitL s2 + 1)] w fun e w' => e = .returned (.int .i64 k) ∧ w = w') := fun w => by
    rw [← hk]; exact genMod _ _ w (by omega) (by omega)
  have HPO := hid (refPfxOf s2 xs h2 h3 k (by omega))
  have hpq2 : (s2, truncL xs k, (k : Int)) = pq := by rw [← hpq, hk]
  rw [hpq2] at HPO
  have HIX := hid (addr_inf (six := s2) h2.1)
  have HLX : Hid ((addrC false zeros).length = (addrC s2 xs).length) := (addr_len (six := false) (bs := zeros) rfl).trans (addr_len h2.1).symm
  have HIQ := hid (pfx_inf (p := pq) hok.g.1)
  have HLQ : Hid ((pfxC (false, zeros, 0)).length = (pfxC pq).length) := by show _ = _; rw [pfx_len hok.g.1]; rfl
  generalize hLs : bitL s2 = L at *
  generalize hac : addrC p.1 p.2.1 = ac at *
  generalize hpn : p.2.2 = pn at *
  generalize pfxC p = cs at *
  clear hg hok hpq hpq2 h1 h2 h3 k0 k1 hk hac hpn hLs
  go_enter Tryd.func41, Tryd.ntmps41
  go_upto_region 2 with (first
    | (refine wpList_load_want rfl 57 _ rfl w.heap.size 0 rfl ac _ (BP.rangeMid 0 _ HA.out) Tryd.underlying57 rfl HIA.out ?_)
    | (go_at_call 67; (with_reducible refine (HSA.out _).mono ?_); rintro e w2 ⟨rfl, D⟩; replace BP := BP.ch D (by simp); replace BR := BR.ch D (by simp); replace CX := CX.trans D; clear D)
    | (go_at_call 66; (with_reducible refine (HVA.out _).mono ?_); rintro e w3 ⟨rfl, D⟩; replace BP := BP.ch D (by simp); replace BR := BR.ch D (by simp); replace CX := CX.trans D; clear D; have lr := BR.lt)
    | (refine wpList_storeB rfl 57 _ _ rfl w3.heap.size 57 (addrC false zeros) (addrC s2 xs) rfl rfl (Blk.new _ _ _) HIX.out HLX.out (addr_one' _ _) ?_; intro w4 BX D Z; clear Z; have D2 := ((Ch.refl [] w3).alloc _).step D (fun i hi => .inr (by simp at hi; omega)); replace BP := BP.ch D2 (by simp); replace BR := BR.ch D2 (by simp); replace CX := CX.trans D2; clear D D2))
  generalize w3.heap.size = gx at BX lr ⊢
  have e17 : w4.cell? ⟨w.heap.size, 17, none⟩ = some (.int .i64 pn) := (BP.cell 17).trans H17.out
  try simp only [Act.put]
  refine wp_region_tree [⟨0, 8, 2048⟩, ⟨0, 2, 4096⟩, ⟨2, 4096, 8192⟩, ⟨0, 8, 16384⟩, ⟨8, 16384, 32768⟩, ⟨16, 32768, 65536⟩, ⟨52, 73728, 131072⟩, ⟨65, 133120, 262144⟩, ⟨128, 262144, 1024⟩, ⟨256, 1024, 524288⟩, ⟨256, 1024, 1048576⟩, ⟨0, 0, 16⟩, ⟨3071, 524304, 0⟩, ⟨8191, 1048576, 32⟩] [(4, [0, 1, 2]), (7, []), (11, [0, 1, 2, 3, 5, 6, 8, 9, 10]), (12, [10])] (.two [0, 1, 2, 3] 4 [0, 1, 2] (.two [5, 6] 7 [] (.one [8, 9, 10] 11 [0, 1, 2, 3, 5, 6, 8, 9, 10] (.one [] 12 [10] (.last [13]))) 11 [0, 1, 2, 3, 5, 6] (.one [] 7 [] (.one [8, 9, 10] 12 [10] (.last [13])))) 11 [0, 1, 2, 3] (.one [] 4 [0, 1, 2] (.one [5, 6] 7 [] (.one [8, 9, 10] 12 [10] (.last [13]))))) (by kernel_rfl) (by kernel_rfl) ?_
  refine wpTree_two ?_
  try simp only [pick, List.map_cons, List.map_nil, List.getD_cons_zero, List.getD_cons_succ]
  repeat (first
    | (refine wpQuiet_row rfl 57 _ rfl gx 0 rfl (addrC s2 xs) _ (fun w' ⟨q, hq⟩ => hq ▸ (BX.drewN q).range) Tryd.underlying57 rfl HIX.out ?_; simp only [Act.put, List.setIfInBounds_toArray, List.set_cons_succ, List.set_cons_zero])
    | go_big_quiet_step (first
      | (go_at_call 9; exact quiet_eq (HMD.out _))))
  refine wpQuiet_nil ?_
  refine ⟨?_, ?_⟩
  · skip
    intro n0
    try simp only [pick, List.map_cons, List.map_nil, List.getD_cons_zero, List.getD_cons_succ]
    go_wp2_with (go_at_call 63; (with_reducible refine (HBL.out _).mono ?_); rintro e b0 ⟨rfl, Dn0⟩)
    have En0 := ((Ch.refl [] w4).drewN n0).trans Dn0
    replace BP := BP.ch En0 (by simp)
    replace BX := BX.ch En0 (by simp)
    replace BR := BR.ch En0 (by simp)
    replace CX := CX.trans En0
    clear En0 e17
    have e17 : b0.cell? ⟨w.heap.size, 17, none⟩ = some (.int .i64 pn) := (BP.cell 17).trans H17.out
    refine stagePost_mk ?_ ?_
    · intro o ho
      simp only [pick, List.map_cons, List.map_nil, List.getD_cons_zero, List.getD_cons_succ, List.mem_cons, List.not_mem_nil, or_false] at ho
      rcases ho with rfl | rfl | rfl
      all_goals
        refine float_any ?_
        repeat (first
          | (refine wpQuiet_row rfl 57 _ rfl gx 0 rfl (addrC s2 xs) _ (fun w' ⟨q, hq⟩ => hq ▸ (BX.drewN q).range) Tryd.underlying57 rfl HIX.out ?_; simp only [Act.put, List.setIfInBounds_toArray, List.set_cons_succ, List.set_cons_zero])
          | go_big_quiet_step (first
            | (go_at_call 9; exact quiet_eq (HMD.out _))))
        refine wpQuiet_nil ?_
        rfl
    refine wpTree_two ?_
    try simp only [pick, List.map_cons, List.map_nil, List.getD_cons_zero, List.getD_cons_succ]
    repeat (first
      | (refine wpQuiet_row rfl 57 _ rfl gx 0 rfl (addrC s2 xs) _ (fun w' ⟨q, hq⟩ => hq ▸ (BX.drewN q).range) Tryd.underlying57 rfl HIX.out ?_; simp only [Act.put, List.setIfInBounds_toArray, List.set_cons_succ, List.set_cons_zero])
      | go_big_quiet_step (first
        | (go_at_call 9; exact quiet_eq (HMD.out _))))
    refine wpQuiet_nil ?_
    refine ⟨?_, ?_⟩
    · skip
      intro n1
      try simp only [pick, List.map_cons, List.map_nil, List.getD_cons_zero, List.getD_cons_succ]
      go_wp2_with (go_at_call 68; (with_reducible refine (HPO.out _).mono ?_); rintro e p1 ⟨rfl, Dn1⟩)
      have En1 := ((Ch.refl [] b0).drewN n1).trans Dn1
      replace BP := BP.ch En1 (by simp)
      replace BX := BX.ch En1 (by simp)
      replace BR := BR.ch En1 (by simp)
      replace CX := CX.trans En1
      clear En1 e17
      have e17 : p1.cell? ⟨w.heap.size, 17, none⟩ = some (.int .i64 pn) := (BP.cell 17).trans H17.out
      refine stagePost_mk (by simp [pick]) ?_
      refine wpTree_one ?_
      try simp only [pick, List.map_cons, List.map_nil, List.getD_cons_zero, List.getD_cons_succ]
      repeat (first
        | (refine wpQuiet_row rfl 57 _ rfl gx 0 rfl (addrC s2 xs) _ (fun w' ⟨q, hq⟩ => hq ▸ (BX.drewN q).range) Tryd.underlying57 rfl HIX.out ?_; simp only [Act.put, List.setIfInBounds_toArray, List.set_cons_succ, List.set_cons_zero])
        | go_big_quiet_step (first
          | (go_at_call 9; exact quiet_eq (HMD.out _))))
      refine wpQuiet_nil ?_
      intro n2
      try simp only [pick, List.map_cons, List.map_nil, List.getD_cons_zero, List.getD_cons_succ]
      go_wp2_with fail
      have BQ : Blk ((p1.drewN n2).alloc (.cells #[.bool false, .int .u8 0, .int .u8 0, .int .u8 0, .int .u8 0, .int .u8 0, .int .u8 0, .int .u8 0, .int .u8 0, .int .u8 0, .int .u8 0, .int .u8 0, .int .u8 0, .int .u8 0, .int .u8 0, .int .u8 0, .int .u8 0, .int .i64 0] 59)) p1.heap.size 59 (pfxC (false, zeros, 0)) := Blk.newAt _ _ _ rfl
      have Dn2 : Ch [] (p1.drewN n2) ((p1.drewN n2).alloc (.cells #[.bool false, .int .u8 0, .int .u8 0, .int .u8 0, .int .u8 0, .int .u8 0, .int .u8 0, .int .u8 0, .int .u8 0, .int .u8 0, .int .u8 0, .int .u8 0, .int .u8 0, .int .u8 0, .int .u8 0, .int .u8 0, .int .u8 0, .int .i64 0] 59)) := (Ch.refl _ _).alloc _
      have gq0 := BX.lt
      have En2 := ((Ch.refl [] p1).drewN n2).trans Dn2
      replace BP := BP.ch En2 (by simp)
      replace BX := BX.ch En2 (by simp)
      replace BR := BR.ch En2 (by simp)
      replace CX := CX.trans En2
      clear En2 e17
      have e17 : ((p1.drewN n2).alloc (.cells #[.bool false, .int .u8 0, .int .u8 0, .int .u8 0, .int .u8 0, .int .u8 0, .int .u8 0, .int .u8 0, .int .u8 0, .int .u8 0, .int .u8 0, .int .u8 0, .int .u8 0, .int .u8 0, .int .u8 0, .int .u8 0, .int .u8 0, .int .i64 0] 59)).cell? ⟨w.heap.size, 17, none⟩ = some (.int .i64 pn) := (BP.cell 17).trans H17.out
      generalize p1.heap.size = gq at BQ gq0 ⊢
      generalize ((p1.drewN n2).alloc (.cells #[.bool false, .int .u8 0, .int .u8 0, .int .u8 0, .int .u8 0, .int .u8 0, .int .u8 0, .int .u8 0, .int .u8 0, .int .u8 0, .int .u8 0, .int .u8 0, .int .u8 0, .int .u8 0, .int .u8 0, .int .u8 0, .int .u8 0, .int .i64 0] 59)) = a2 at BP BX BR BQ CX e17 Dn2 ⊢
      clear Dn2
      refine stagePost_mk ?_ ?_
      · intro o ho
        simp only [pick, List.map_cons, List.map_nil, List.getD_cons_zero, List.getD_cons_succ, List.mem_cons, List.not_mem_nil, or_false] at ho
        rcases ho with rfl | rfl | rfl | rfl | rfl | rfl | rfl | rfl | rfl
        all_goals
          refine float_any ?_
          repeat (first
            | (refine wpQuiet_row rfl 57 _ rfl gx 0 rfl (addrC s2 xs) _ (fun w' ⟨q, hq⟩ => hq ▸ (BX.drewN q).range) Tryd.underlying57 rfl HIX.out ?_; simp only [Act.put, List.setIfInBounds_toArray, List.set_cons_succ, List.set_cons_zero])
            | go_big_quiet_step (first
              | (go_at_call 9; exact quiet_eq (HMD.out _))))
          refine wpQuiet_nil ?_
          rfl
      refine wpTree_one ?_
      try simp only [pick, List.map_nil]
      repeat (first
        | (refine wpQuiet_row rfl 57 _ rfl gx 0 rfl (addrC s2 xs) _ (fun w' ⟨q, hq⟩ => hq ▸ (BX.drewN q).range) Tryd.underlying57 rfl HIX.out ?_; simp only [Act.put, List.setIfInBounds_toArray, List.set_cons_succ, List.set_cons_zero])
        | go_big_quiet_step (first
          | (go_at_call 9; exact quiet_eq (HMD.out _))))
      refine wpQuiet_nil ?_
      intro n3
      try simp only [pick, List.map_cons, List.map_nil, List.getD_cons_zero, List.getD_cons_succ]
      have BQ' := BQ.drewN n3
      go_wp2_with (refine wpList_storeB rfl 59 _ _ rfl gq 59 (pfxC (false, zeros, 0)) (pfxC pq) rfl rfl BQ' HIQ.out HLQ.out (pfx_one _) ?_; intro s3 BS Dn3 Z; clear Z)
      have En3 := ((Ch.refl [gq] a2).drewN n3).trans Dn3
      replace BP := BP.ch En3 (by simp; omega)
      replace BX := BX.ch En3 (by simp; omega)
      replace BR := BR.ch En3 (by simp; omega)
      replace CX := CX.step En3 (fun i hi => .inr (by simp at hi; omega))
      clear e17 BQ BQ'
      have e17 : s3.cell? ⟨w.heap.size, 17, none⟩ = some (.int .i64 pn) := (BP.cell 17).trans H17.out
      refine stagePost_mk ?_ ?_
      · intro o ho
        simp only [pick, List.map_cons, List.map_nil, List.getD_cons_zero, List.getD_cons_succ, List.mem_cons, List.not_mem_nil, or_false] at ho
        subst ho
        all_goals
          refine float_any ?_
          repeat (first
            | (refine wpQuiet_row rfl 57 _ rfl gx 0 rfl (addrC s2 xs) _ (fun w' ⟨q, hq⟩ => hq ▸ (BX.drewN q).range) Tryd.underlying57 rfl HIX.out ?_; simp only [Act.put, List.setIfInBounds_toArray, List.set_cons_succ, List.set_cons_zero])
            | go_big_quiet_step (first
              | (go_at_call 9; exact quiet_eq (HMD.out _))))
          refine wpQuiet_nil ?_
          rfl
      refine wpTree_last ?_
      try simp only [pick, List.map_cons, List.map_nil, List.getD_cons_zero, List.getD_cons_succ]
      repeat (first
        | (refine wpQuiet_row rfl 57 _ rfl gx 0 rfl (addrC s2 xs) _ (fun w' ⟨q, hq⟩ => hq ▸ (BX.drewN q).range) Tryd.underlying57 rfl HIX.out ?_; simp only [Act.put, List.setIfInBounds_toArray, List.set_cons_succ, List.set_cons_zero])
        | go_big_quiet_step (first
          | (go_at_call 9; exact quiet_eq (HMD.out _))))
      refine wpQuiet_nil ?_
      intro n4
      have BQ' := BS.drewN n4
      have BR' := BR.drewN n4
      have CX' := CX.drewN n4
      go_wp2_with (first
        | (refine wpList_load_want rfl 59 _ rfl gq 0 rfl (pfxC pq) _ BQ'.range Tryd.underlying59 rfl HIQ.out ?_)
        | (refine wpList_storeB rfl 59 _ _ rfl (w.heap.size + 1) 59 (pfxC (false, zeros, 0)) (pfxC pq) rfl rfl BR' HIQ.out HLQ.out (pfx_one _) ?_; intro wz BZ DZ ZZ))
      try simp only [Exit.inBlock, Exit.then]
      refine bodyPost_ret (results_row1 rfl _ _ rfl BZ Tryd.underlying59 rfl HIQ.out) rfl ?_
      exact ⟨rfl, CX'.step DZ (fun i hi => .inr (by simp at hi; omega))⟩
    · skip
      intro n1
      try simp only [pick, List.map_cons, List.map_nil, List.getD_cons_zero, List.getD_cons_succ]
      go_wp2_with fail
      have BQ : Blk ((b0.drewN n1).alloc (.cells #[.bool false, .int .u8 0, .int .u8 0, .int .u8 0, .int .u8 0, .int .u8 0, .int .u8 0, .int .u8 0, .int .u8 0, .int .u8 0, .int .u8 0, .int .u8 0, .int .u8 0, .int .u8 0, .int .u8 0, .int .u8 0, .int .u8 0, .int .i64 0] 59)) b0.heap.size 59 (pfxC (false, zeros, 0)) := Blk.newAt _ _ _ rfl
      have Dn1 : Ch [] (b0.drewN n1) ((b0.drewN n1).alloc (.cells #[.bool false, .int .u8 0, .int .u8 0, .int .u8 0, .int .u8 0, .int .u8 0, .int .u8 0, .int .u8 0, .int .u8 0, .int .u8 0, .int .u8 0, .int .u8 0, .int .u8 0, .int .u8 0, .int .u8 0, .int .u8 0, .int .u8 0, .int .i64 0] 59)) := (Ch.refl _ _).alloc _
      have gq0 := BX.lt
      have En1 := ((Ch.refl [] b0).drewN n1).trans Dn1
      replace BP := BP.ch En1 (by simp)
      replace BX := BX.ch En1 (by simp)
      replace BR := BR.ch En1 (by simp)
      replace CX := CX.trans En1
      clear En1 e17
      have e17 : ((b0.drewN n1).alloc (.cells #[.bool false, .int .u8 0, .int .u8 0, .int .u8 0, .int .u8 0, .int .u8 0, .int .u8 0, .int .u8 0, .int .u8 0, .int .u8 0, .int .u8 0, .int .u8 0, .int .u8 0, .int .u8 0, .int .u8 0, .int .u8 0, .int .u8 0, .int .i64 0] 59)).cell? ⟨w.heap.size, 17, none⟩ = some (.int .i64 pn) := (BP.cell 17).trans H17.out
      generalize b0.heap.size = gq at BQ gq0 ⊢
      generalize ((b0.drewN n1).alloc (.cells #[.bool false, .int .u8 0, .int .u8 0, .int .u8 0, .int .u8 0, .int .u8 0, .int .u8 0, .int .u8 0, .int .u8 0, .int .u8 0, .int .u8 0, .int .u8 0, .int .u8 0, .int .u8 0, .int .u8 0, .int .u8 0, .int .u8 0, .int .i64 0] 59)) = a1 at BP BX BR BQ CX e17 Dn1 ⊢
      clear Dn1
      refine stagePost_mk ?_ ?_
      · intro o ho
        simp only [pick, List.map_cons, List.map_nil, List.getD_cons_zero, List.getD_cons_succ, List.mem_cons, List.not_mem_nil, or_false] at ho
        rcases ho with rfl | rfl | rfl | rfl | rfl | rfl
        all_goals
          refine float_any ?_
          repeat (first
            | (refine wpQuiet_row rfl 57 _ rfl gx 0 rfl (addrC s2 xs) _ (fun w' ⟨q, hq⟩ => hq ▸ (BX.drewN q).range) Tryd.underlying57 rfl HIX.out ?_; simp only [Act.put, List.setIfInBounds_toArray, List.set_cons_succ, List.set_cons_zero])
            | go_big_quiet_step (first
              | (go_at_call 9; exact quiet_eq (HMD.out _))))
          refine wpQuiet_nil ?_
          rfl
      refine wpTree_one ?_
      try simp only [pick, List.map_nil]
      repeat (first
        | (refine wpQuiet_row rfl 57 _ rfl gx 0 rfl (addrC s2 xs) _ (fun w' ⟨q, hq⟩ => hq ▸ (BX.drewN q).range) Tryd.underlying57 rfl HIX.out ?_; simp only [Act.put, List.setIfInBounds_toArray, List.set_cons_succ, List.set_cons_zero])
        | go_big_quiet_step (first
          | (go_at_call 9; exact quiet_eq (HMD.out _))))
      refine wpQuiet_nil ?_
      intro n5
      try simp only [pick, List.map_cons, List.map_nil, List.getD_cons_zero, List.getD_cons_succ]
      go_wp2_with (go_at_call 68; (with_reducible refine (HPO.out _).mono ?_); rintro e p5 ⟨rfl, Dn5⟩)
      have En5 := ((Ch.refl [] a1).drewN n5).trans Dn5
      replace BP := BP.ch En5 (by simp)
      replace BX := BX.ch En5 (by simp)
      replace BR := BR.ch En5 (by simp)
      replace BQ := BQ.ch En5 (by simp)
      replace CX := CX.trans En5
      clear En5 e17
      have e17 : p5.cell? ⟨w.heap.size, 17, none⟩ = some (.int .i64 pn) := (BP.cell 17).trans H17.out
      refine stagePost_mk (by simp [pick]) ?_
      refine wpTree_one ?_
      try simp only [pick, List.map_cons, List.map_nil, List.getD_cons_zero, List.getD_cons_succ]
      repeat (first
        | (refine wpQuiet_row rfl 57 _ rfl gx 0 rfl (addrC s2 xs) _ (fun w' ⟨q, hq⟩ => hq ▸ (BX.drewN q).range) Tryd.underlying57 rfl HIX.out ?_; simp only [Act.put, List.setIfInBounds_toArray, List.set_cons_succ, List.set_cons_zero])
        | go_big_quiet_step (first
          | (go_at_call 9; exact quiet_eq (HMD.out _))))
      refine wpQuiet_nil ?_
      intro n6
      try simp only [pick, List.map_cons, List.map_nil, List.getD_cons_zero, List.getD_cons_succ]
      have BQ' := BQ.drewN n6
      go_wp2_with (refine wpList_storeB rfl 59 _ _ rfl gq 59 (pfxC (false, zeros, 0)) (pfxC pq) rfl rfl BQ' HIQ.out HLQ.out (pfx_one _) ?_; intro s6 BS Dn6 Z; clear Z)
      have En6 := ((Ch.refl [gq] p5).drewN n6).trans Dn6
      replace BP := BP.ch En6 (by simp; omega)
      replace BX := BX.ch En6 (by simp; omega)
      replace BR := BR.ch En6 (by simp; omega)
      replace CX := CX.step En6 (fun i hi => .inr (by simp at hi; omega))
      clear e17 BQ BQ'
      have e17 : s6.cell? ⟨w.heap.size, 17, none⟩ = some (.int .i64 pn) := (BP.cell 17).trans H17.out
      refine stagePost_mk ?_ ?_
      · intro o ho
        simp only [pick, List.map_cons, List.map_nil, List.getD_cons_zero, List.getD_cons_succ, List.mem_cons, List.not_mem_nil, or_false] at ho
        subst ho
        all_goals
          refine float_any ?_
          repeat (first
            | (refine wpQuiet_row rfl 57 _ rfl gx 0 rfl (addrC s2 xs) _ (fun w' ⟨q, hq⟩ => hq ▸ (BX.drewN q).range) Tryd.underlying57 rfl HIX.out ?_; simp only [Act.put, List.setIfInBounds_toArray, List.set_cons_succ, List.set_cons_zero])
            | go_big_quiet_step (first
              | (go_at_call 9; exact quiet_eq (HMD.out _))))
          refine wpQuiet_nil ?_
          rfl
      refine wpTree_last ?_
      try simp only [pick, List.map_cons, List.map_nil, List.getD_cons_zero, List.getD_cons_succ]
      repeat (first
        | (refine wpQuiet_row rfl 57 _ rfl gx 0 rfl (addrC s2 xs) _ (fun w' ⟨q, hq⟩ => hq ▸ (BX.drewN q).range) Tryd.underlying57 rfl HIX.out ?_; simp only [Act.put, List.setIfInBounds_toArray, List.set_cons_succ, List.set_cons_zero])
        | go_big_quiet_step (first
          | (go_at_call 9; exact quiet_eq (HMD.out _))))
      refine wpQuiet_nil ?_
      intro n7
      have BQ' := BS.drewN n7
      have BR' := BR.drewN n7
      have CX' := CX.drewN n7
      go_wp2_with (first
        | (refine wpList_load_want rfl 59 _ rfl gq 0 rfl (pfxC pq) _ BQ'.range Tryd.underlying59 rfl HIQ.out ?_)
        | (refine wpList_storeB rfl 59 _ _ rfl (w.heap.size + 1) 59 (pfxC (false, zeros, 0)) (pfxC pq) rfl rfl BR' HIQ.out HLQ.out (pfx_one _) ?_; intro wz BZ DZ ZZ))
      try simp only [Exit.inBlock, Exit.then]
      refine bodyPost_ret (results_row1 rfl _ _ rfl BZ Tryd.underlying59 rfl HIQ.out) rfl ?_
      exact ⟨rfl, CX'.step DZ (fun i hi => .inr (by simp at hi; omega))⟩
  · skip
    intro n0
    try simp only [pick, List.map_cons, List.map_nil, List.getD_cons_zero, List.getD_cons_succ]
    go_wp2_with fail
    have BQ : Blk ((w4.drewN n0).alloc (.cells #[.bool false, .int .u8 0, .int .u8 0, .int .u8 0, .int .u8 0, .int .u8 0, .int .u8 0, .int .u8 0, .int .u8 0, .int .u8 0, .int .u8 0, .int .u8 0, .int .u8 0, .int .u8 0, .int .u8 0, .int .u8 0, .int .u8 0, .int .i64 0] 59)) w4.heap.size 59 (pfxC (false, zeros, 0)) := Blk.newAt _ _ _ rfl
    have Dn0 : Ch [] (w4.drewN n0) ((w4.drewN n0).alloc (.cells #[.bool false, .int .u8 0, .int .u8 0, .int .u8 0, .int .u8 0, .int .u8 0, .int .u8 0, .int .u8 0, .int .u8 0, .int .u8 0, .int .u8 0, .int .u8 0, .int .u8 0, .int .u8 0, .int .u8 0, .int .u8 0, .int .u8 0, .int .i64 0] 59)) := (Ch.refl _ _).alloc _
    have gq0 := BX.lt
    have En0 := ((Ch.refl [] w4).drewN n0).trans Dn0
    replace BP := BP.ch En0 (by simp)
    replace BX := BX.ch En0 (by simp)
    replace BR := BR.ch En0 (by simp)
    replace CX := CX.trans En0
    clear En0 e17
    have e17 : ((w4.drewN n0).alloc (.cells #[.bool false, .int .u8 0, .int .u8 0, .int .u8 0, .int .u8 0, .int .u8 0, .int .u8 0, .int .u8 0, .int .u8 0, .int .u8 0, .int .u8 0, .int .u8 0, .int .u8 0, .int .u8 0, .int .u8 0, .int .u8 0, .int .u8 0, .int .i64 0] 59)).cell? ⟨w.heap.size, 17, none⟩ = some (.int .i64 pn) := (BP.cell 17).trans H17.out
    generalize w4.heap.size = gq at BQ gq0 ⊢
    generalize ((w4.drewN n0).alloc (.cells #[.bool false, .int .u8 0, .int .u8 0, .int .u8 0, .int .u8 0, .int .u8 0, .int .u8 0, .int .u8 0, .int .u8 0, .int .u8 0, .int .u8 0, .int .u8 0, .int .u8 0, .int .u8 0, .int .u8 0, .int .u8 0, .int .u8 0, .int .i64 0] 59)) = a0 at BP BX BR BQ CX e17 Dn0 ⊢
    clear Dn0
    refine stagePost_mk ?_ ?_
    · intro o ho
      simp only [pick, List.map_cons, List.map_nil, List.getD_cons_zero, List.getD_cons_succ, List.mem_cons, List.not_mem_nil, or_false] at ho
      rcases ho with rfl | rfl | rfl | rfl
      all_goals
        refine float_any ?_
        repeat (first
          | (refine wpQuiet_row rfl 57 _ rfl gx 0 rfl (addrC s2 xs) _ (fun w' ⟨q, hq⟩ => hq ▸ (BX.drewN q).range) Tryd.underlying57 rfl HIX.out ?_; simp only [Act.put, List.setIfInBounds_toArray, List.set_cons_succ, List.set_cons_zero])
          | go_big_quiet_step (first
            | (go_at_call 9; exact quiet_eq (HMD.out _))))
        refine wpQuiet_nil ?_
        rfl
    refine wpTree_one ?_
    try simp only [pick, List.map_nil]
    repeat (first
      | (refine wpQuiet_row rfl 57 _ rfl gx 0 rfl (addrC s2 xs) _ (fun w' ⟨q, hq⟩ => hq ▸ (BX.drewN q).range) Tryd.underlying57 rfl HIX.out ?_; simp only [Act.put, List.setIfInBounds_toArray, List.set_cons_succ, List.set_cons_zero])
      | go_big_quiet_step (first
        | (go_at_call 9; exact quiet_eq (HMD.out _))))
    refine wpQuiet_nil ?_
    intro n8
    try simp only [pick, List.map_cons, List.map_nil, List.getD_cons_zero, List.getD_cons_succ]
    go_wp2_with (go_at_call 63; (with_reducible refine (HBL.out _).mono ?_); rintro e b8 ⟨rfl, Dn8⟩)
    have En8 := ((Ch.refl [] a0).drewN n8).trans Dn8
    replace BP := BP.ch En8 (by simp)
    replace BX := BX.ch En8 (by simp)
    replace BR := BR.ch En8 (by simp)
    replace BQ := BQ.ch En8 (by simp)
    replace CX := CX.trans En8
    clear En8 e17
    have e17 : b8.cell? ⟨w.heap.size, 17, none⟩ = some (.int .i64 pn) := (BP.cell 17).trans H17.out
    refine stagePost_mk ?_ ?_
    · intro o ho
      simp only [pick, List.map_cons, List.map_nil, List.getD_cons_zero, List.getD_cons_succ, List.mem_cons, List.not_mem_nil, or_false] at ho
      rcases ho with rfl | rfl | rfl
      all_goals
        refine float_any ?_
        repeat (first
          | (refine wpQuiet_row rfl 57 _ rfl gx 0 rfl (addrC s2 xs) _ (fun w' ⟨q, hq⟩ => hq ▸ (BX.drewN q).range) Tryd.underlying57 rfl HIX.out ?_; simp only [Act.put, List.setIfInBounds_toArray, List.set_cons_succ, List.set_cons_zero])
          | go_big_quiet_step (first
            | (go_at_call 9; exact quiet_eq (HMD.out _))))
        refine wpQuiet_nil ?_
        rfl
    refine wpTree_one ?_
    try simp only [pick, List.map_cons, List.map_nil, List.getD_cons_zero, List.getD_cons_succ]
    repeat (first
      | (refine wpQuiet_row rfl 57 _ rfl gx 0 rfl (addrC s2 xs) _ (fun w' ⟨q, hq⟩ => hq ▸ (BX.drewN q).range) Tryd.underlying57 rfl HIX.out ?_; simp only [Act.put, List.setIfInBounds_toArray, List.set_cons_succ, List.set_cons_zero])
      | go_big_quiet_step (first
        | (go_at_call 9; exact quiet_eq (HMD.out _))))
    refine wpQuiet_nil ?_
    intro n9
    try simp only [pick, List.map_cons, List.map_nil, List.getD_cons_zero, List.getD_cons_succ]
    go_wp2_with (go_at_call 68; (with_reducible refine (HPO.out _).mono ?_); rintro e p9 ⟨rfl, Dn9⟩)
    have En9 := ((Ch.refl [] b8).drewN n9).trans Dn9
    replace BP := BP.ch En9 (by simp)
    replace BX := BX.ch En9 (by simp)
    replace BR := BR.ch En9 (by simp)
    replace BQ := BQ.ch En9 (by simp)
    replace CX := CX.trans En9
    clear En9 e17
    have e17 : p9.cell? ⟨w.heap.size, 17, none⟩ = some (.int .i64 pn) := (BP.cell 17).trans H17.out
    refine stagePost_mk (by simp [pick]) ?_
    refine wpTree_one ?_
    try simp only [pick, List.map_cons, List.map_nil, List.getD_cons_zero, List.getD_cons_succ]
    repeat (first
      | (refine wpQuiet_row rfl 57 _ rfl gx 0 rfl (addrC s2 xs) _ (fun w' ⟨q, hq⟩ => hq ▸ (BX.drewN q).range) Tryd.underlying57 rfl HIX.out ?_; simp only [Act.put, List.setIfInBounds_toArray, List.set_cons_succ, List.set_cons_zero])
      | go_big_quiet_step (first
        | (go_at_call 9; exact quiet_eq (HMD.out _))))
    refine wpQuiet_nil ?_
    intro n10
    try simp only [pick, List.map_cons, List.map_nil, List.getD_cons_zero, List.getD_cons_succ]
    have BQ' := BQ.drewN n10
    go_wp2_with (refine wpList_storeB rfl 59 _ _ rfl gq 59 (pfxC (false, zeros, 0)) (pfxC pq) rfl rfl BQ' HIQ.out HLQ.out (pfx_one _) ?_; intro s10 BS Dn10 Z; clear Z)
    have En10 := ((Ch.refl [gq] p9).drewN n10).trans Dn10
    replace BP := BP.ch En10 (by simp; omega)
    replace BX := BX.ch En10 (by simp; omega)
    replace BR := BR.ch En10 (by simp; omega)
    replace CX := CX.step En10 (fun i hi => .inr (by simp at hi; omega))
    clear e17 BQ BQ'
    have e17 : s10.cell? ⟨w.heap.size, 17, none⟩ = some (.int .i64 pn) := (BP.cell 17).trans H17.out
    refine stagePost_mk ?_ ?_
    · intro o ho
      simp only [pick, List.map_cons, List.map_nil, List.getD_cons_zero, List.getD_cons_succ, List.mem_cons, List.not_mem_nil, or_false] at ho
      subst ho
      all_goals
        refine float_any ?_
        repeat (first
          | (refine wpQuiet_row rfl 57 _ rfl gx 0 rfl (addrC s2 xs) _ (fun w' ⟨q, hq⟩ => hq ▸ (BX.drewN q).range) Tryd.underlying57 rfl HIX.out ?_; simp only [Act.put, List.setIfInBounds_toArray, List.set_cons_succ, List.set_cons_zero])
          | go_big_quiet_step (first
            | (go_at_call 9; exact quiet_eq (HMD.out _))))
        refine wpQuiet_nil ?_
        rfl
    refine wpTree_last ?_
    try simp only [pick, List.map_cons, List.map_nil, List.getD_cons_zero, List.getD_cons_succ]
    repeat (first
      | (refine wpQuiet_row rfl 57 _ rfl gx 0 rfl (addrC s2 xs) _ (fun w' ⟨q, hq⟩ => hq ▸ (BX.drewN q).range) Tryd.underlying57 rfl HIX.out ?_; simp only [Act.put, List.setIfInBounds_toArray, List.set_cons_succ, List.set_cons_zero])
      | go_big_quiet_step (first
        | (go_at_call 9; exact quiet_eq (HMD.out _))))
    refine wpQuiet_nil ?_
    intro n11
    have BQ' := BS.drewN n11
    have BR' := BR.drewN n11
    have CX' := CX.drewN n11
    go_wp2_with (first
      | (refine wpList_load_want rfl 59 _ rfl gq 0 rfl (pfxC pq) _ BQ'.range Tryd.underlying59 rfl HIQ.out ?_)
      | (refine wpList_storeB rfl 59 _ _ rfl (w.heap.size + 1) 59 (pfxC (false, zeros, 0)) (pfxC pq) rfl rfl BR' HIQ.out HLQ.out (pfx_one _) ?_; intro wz BZ DZ ZZ))
    try simp only [Exit.inBlock, Exit.then]
    refine bodyPost_ret (results_row1 rfl _ _ rfl BZ Tryd.underlying59 rfl HIQ.out) rfl ?_
    exact ⟨rfl, CX'.step DZ (fun i hi => .inr (by simp at hi; omega))⟩
end Go.Proofs.YtbmbnibamhgfmaaDoor

/- ginnelgen: Host and Port as functions, Rule, Rules. -/
namespace Go.Proofs.YtbmbnibamhgfmaaDoor
open Go.RowKit

def hostK (k : Int) : ByteArray := if k = 0 then ⟨#[120, 46, 116, 101, 115, 116]⟩ else if k = 1 then ⟨#[121, 46, 120, 46, 116, 101, 115, 116]⟩ else if k = 2 then ⟨#[122, 46, 111, 114, 103]⟩ else if k = 3 then ⟨#[98, 97, 100, 46, 122, 46, 111, 114, 103]⟩ else if k = 4 then ⟨#[97, 45, 49, 46, 98, 97, 100, 46, 122, 46, 111, 114, 103]⟩ else ⟨#[116, 101, 115, 116]⟩
def hostS (n : Int) : ByteArray := hostK (modI n 6)
theorem genHostD (n : Int) (w : World) : Calls Tryd.prog 40 #[.int .i64 n] w fun e w' => e = .returned (.string (hostS n)) ∧ w = w' := by
  obtain ⟨h0, h1⟩ := modI_rng n 6 (by omega)
  have M1 := hid (fun w => genMod n 6 w (by omega) (by omega))
  unfold hostS
  generalize modI n 6 = k at h0 h1 M1
  obtain rfl | rfl | rfl | rfl | rfl | rfl : k = 0 ∨ k = 1 ∨ k = 2 ∨ k = 3 ∨ k = 4 ∨ k = 5 := by omega
  all_goals
    go_enter Tryd.func40, Tryd.ntmps40
    go_wp2_with (go_at_call 9; (with_reducible refine (M1.out _).mono ?_); rintro e w2 ⟨rfl, rfl⟩)
    go_ret
    exact ⟨rfl, rfl⟩
theorem hostS_ok (n : Int) : namOk (numsOf (hostS n)) = true ∧ 4 ≤ (hostS n).size ∧ (hostS n).size ≤ 13 := by
  obtain ⟨h0, h1⟩ := modI_rng n 6 (by omega)
  unfold hostS
  generalize modI n 6 = k at h0 h1
  obtain rfl | rfl | rfl | rfl | rfl | rfl : k = 0 ∨ k = 1 ∨ k = 2 ∨ k = 3 ∨ k = 4 ∨ k = 5 := by omega
  all_goals exact ⟨by decide +kernel, by decide +kernel, by decide +kernel⟩
theorem overL_app : ∀ (vs a b c : List Value), b.length = vs.length → overL (a ++ (b ++ c)) a.length vs = a ++ (vs ++ c)
  | [], a, b, c, h => by
    obtain rfl := List.eq_nil_of_length_eq_zero h
    rfl
  | v :: vs, a, [], c, h => by simp at h
  | v :: vs, a, b0 :: b, c, h => by
    unfold overL
    have e1 : (a ++ (b0 :: b ++ c)).set a.length v = (a ++ [v]) ++ (b ++ c) := by
      rw [List.set_append_right _ _ (Nat.le_refl _), Nat.sub_self]
      simp
    have e2 : a.length + 1 = (a ++ [v]).length := by simp
    rw [e1, e2, overL_app vs (a ++ [v]) b c (by simpa using h)]
    simp
/-- A rule that acl.New accepts. -/
def OkR (r : Rl) : Prop := validR r = true ∧ GoodR r
def Rl.lo (r : Rl) (v : Int) : Rl := (r.1, r.2.1, r.2.2.1, v, r.2.2.2.2)
set_option maxRecDepth 100000 in
set_option maxHeartbeats 8000000 in
theorem genRule (r : Rl) (hg : GoodR r) (w : World) : Calls Tryd.prog 26 #[.agg (rulC r).toArray] w fun e w' => (∃ q : Rl, e = .returned (.agg (rulC q).toArray) ∧ OkR q) ∧ Ch [] w w' := by
  obtain ⟨s, hs⟩ : ∃ s, w.heap.size = s := ⟨_, rfl⟩
  have HS := hid hs
  have HSX : Hid ((rulC r)[1]? = some (.string r.2.1)) := rfl
  have HAL : Hid ((rulC r)[0]? = some (.bool r.1)) := rfl
  have HLO := hid (rul_lo (r := r) hg.1.1)
  have HHI := hid (rul_hi (r := r) hg.1.1)
  have HPC : Hid (∀ j v, (pfxC r.2.2.1)[j]? = some v → (rulC r)[2 + j]? = some v) := fun j v hj => rul_pfx hj
  have HIPC := hid (pfx_inf (p := r.2.2.1) hg.1.1)
  have HGP := hid (genPfx r.2.2.1 hg.1)
  have HGO := hid (genP_ok (p := r.2.2.1) hg.1)
  have hsz := hg.2
  generalize genP r.2.2.1 = pq at HGP HGO
  generalize pfxC r.2.2.1 = pc at HPC HIPC HGP
  generalize r.2.2.2.1 = lo at HLO
  generalize r.2.2.2.2 = hi at HHI
  generalize r.2.1 = sx at HSX hsz
  generalize r.1 = al at HAL
  generalize rulC r = rc at HSX HAL HLO HHI HPC ⊢
  clear hg hs
  go_enter Tryd.func26, Tryd.ntmps26
  go_upto_region 1 with fail
  have B0 : Blk ((w.alloc (.cells rc.toArray 61)).alloc (.cells #[.bool false, .string ⟨#[]⟩, .bool false, .int .u8 0, .int .u8 0, .int .u8 0, .int .u8 0, .int .u8 0, .int .u8 0, .int .u8 0, .int .u8 0, .int .u8 0, .int .u8 0, .int .u8 0, .int .u8 0, .int .u8 0, .int .u8 0, .int .u8 0, .int .u8 0, .int .i64 0, .int .i64 0, .int .i64 0] 61)) w.heap.size 61 rc := (Blk.new w _ _).alloc _
  have BO : Blk ((w.alloc (.cells rc.toArray 61)).alloc (.cells #[.bool false, .string ⟨#[]⟩, .bool false, .int .u8 0, .int .u8 0, .int .u8 0, .int .u8 0, .int .u8 0, .int .u8 0, .int .u8 0, .int .u8 0, .int .u8 0, .int .u8 0, .int .u8 0, .int .u8 0, .int .u8 0, .int .u8 0, .int .u8 0, .int .u8 0, .int .i64 0, .int .i64 0, .int .i64 0] 61)) (w.heap.size + 1) 61 (rulC dR) := Blk.newAt _ _ (rulC dR) (by simp)
  have C0 : Ch [] w ((w.alloc (.cells rc.toArray 61)).alloc (.cells #[.bool false, .string ⟨#[]⟩, .bool false, .int .u8 0, .int .u8 0, .int .u8 0, .int .u8 0, .int .u8 0, .int .u8 0, .int .u8 0, .int .u8 0, .int .u8 0, .int .u8 0, .int .u8 0, .int .u8 0, .int .u8 0, .int .u8 0, .int .u8 0, .int .u8 0, .int .i64 0, .int .i64 0, .int .i64 0] 61)) := ((Ch.refl _ _).alloc _).alloc _
  have hs2 : w.heap.size + 2 ≤ ((w.alloc (.cells rc.toArray 61)).alloc (.cells #[.bool false, .string ⟨#[]⟩, .bool false, .int .u8 0, .int .u8 0, .int .u8 0, .int .u8 0, .int .u8 0, .int .u8 0, .int .u8 0, .int .u8 0, .int .u8 0, .int .u8 0, .int .u8 0, .int .u8 0, .int .u8 0, .int .u8 0, .int .u8 0, .int .u8 0, .int .i64 0, .int .i64 0, .int .i64 0] 61)).heap.size := by simp
  generalize hw1 : (w.alloc (.cells rc.toArray 61)).alloc (.cells #[.bool false, .string ⟨#[]⟩, .bool false, .int .u8 0, .int .u8 0, .int .u8 0, .int .u8 0, .int .u8 0, .int .u8 0, .int .u8 0, .int .u8 0, .int .u8 0, .int .u8 0, .int .u8 0, .int .u8 0, .int .u8 0, .int .u8 0, .int .u8 0, .int .u8 0, .int .i64 0, .int .i64 0, .int .i64 0] 61) = w1 at B0 BO C0 hs2 ⊢
  clear hw1
  have HI22 : Hid ((Tryd.prog.info? 61).map (·.size) = some (rulC (al, ⟨#[]⟩, zeroP, 0, 65535)).length) := rul_inf rfl
  have e0 := (B0.cell 0).trans HAL.out
  go_upto_if 10 with (first
    | (refine wpList_storeB rfl 61 _ _ rfl w1.heap.size 61 (rulC dR) (rulC (al, ⟨#[]⟩, zeroP, 0, 65535)) rfl rfl (Blk.new _ _ _) HI22.out rfl (rul_one _) ?_; intro w2 BX D Z; clear Z; have D2 := ((Ch.refl [] w1).alloc _).step D (fun i hi => .inr (by simp at hi; omega)); clear D e0; replace B0 := B0.ch D2 (by simp); replace BO := BO.ch D2 (by simp); replace C0 := C0.trans D2; clear D2; have e20 := (B0.cell 20).trans HLO.out)
    | (go_at_call 9; (with_reducible refine (genMod _ _ _ ?_ ?_).mono ?_); omega; omega; rintro e w' ⟨rfl, rfl⟩))
  generalize w1.heap.size = gx at BX hs2 ⊢
  rw [HS.out] at B0 BO hs2 ⊢
  clear e20
  generalize hkb : (modI lo 3 == 0) = kb
  clear hkb
  go_cut [] (fun wx => ∃ lo' hi' : Int, 0 ≤ lo' ∧ lo' ≤ hi' ∧ hi' ≤ 65535 ∧ Blk wx gx 61 (rulC (al, ⟨#[]⟩, zeroP, lo', hi')) ∧ Blk wx s 61 rc ∧ Blk wx (s + 1) 61 (rulC dR) ∧ Ch [] w wx)
  case first =>
    cases kb
    · go_wp2_with fail
      go_meet
      exact ⟨0, 65535, by omega, by omega, by omega, BX, B0, BO, C0⟩
    · have e20 := (B0.cell 20).trans HLO.out
      have e21 := (B0.cell 21).trans HHI.out
      have f20 := BX.cell 20
      have f21 := BX.cell 21
      have g20 := BX.frozen 20
      have g21 := BX.frozen 21
      obtain ⟨a0, a1⟩ := modI_rng lo 100 (by omega)
      obtain ⟨b0, b1⟩ := modI_rng hi 500 (by omega)
      have HM1 : Hid (∀ w, Calls Tryd.prog 9 #[.int .i64 lo, .int .i64 100] w fun e w' => e = .returned (.int .i64 (modI lo 100)) ∧ w' = w) := (fun w => (genMod lo 100 w (by omega) (by omega)).mono fun _ _ h => ⟨h.1, h.2.symm⟩)
      have HM2 : Hid (∀ w, Calls Tryd.prog 9 #[.int .i64 hi, .int .i64 500] w fun e w' => e = .returned (.int .i64 (modI hi 500)) ∧ w' = w) := (fun w => (genMod hi 500 w (by omega) (by omega)).mono fun _ _ h => ⟨h.1, h.2.symm⟩)
      generalize modI lo 100 = a at a0 a1 HM1
      generalize modI hi 500 = b at b0 b1 HM2
      have hsum : IntKind.i64.wrap (60 + b) = 60 + b := IntWalk.i64_in _ (by omega)
      go_upto_region 3 with fail
      refine wp_region_stagesM [⟨0, 2, 2048⟩, ⟨1, 2048, 4096⟩, ⟨2, 4096, 8192⟩, ⟨0, 2, 16384⟩, ⟨8, 16384, 32768⟩, ⟨20, 32768, 65536⟩, ⟨32, 65536, 131072⟩, ⟨7, 8, 262144⟩, ⟨167, 270336, 0⟩, ⟨511, 8, 524288⟩, ⟨1023, 655360, 0⟩] [([0, 1, 2, 3, 4, 5, 6, 7], 8, [6]), ([9], 10, [])] [] (by kernel_rfl) (by kernel_rfl) ?_
      refine wpStages_step ?_
      try simp only [pick, List.map_cons, List.map_nil, List.getD_cons_zero, List.getD_cons_succ]
      repeat (go_big_quiet_step (first
        | (go_at_call 9; with_reducible exact Calls.quiet_of_same (HM1.out _))
        | (go_at_call 9; with_reducible exact Calls.quiet_of_same (HM2.out _))))
      refine wpQuiet_nil ?_
      intro n0
      try simp only [pick, List.map_cons, List.map_nil, List.getD_cons_zero, List.getD_cons_succ]
      clear f20 g20 f21 g21
      have f20 : (w2.drewN n0).cell? ⟨gx, 20, none⟩ = some (.int .i64 0) := (BX.drewN n0).cell 20
      have g20 := (BX.drewN n0).frozen 20
      go_wp2_with fail
      have BX1 : Blk ((w2.drewN n0).setCell ⟨gx, 20, none⟩ (.int .i64 a)) gx 61 (rulC (al, ⟨#[]⟩, zeroP, a, 65535)) := (BX.drewN n0).set 20 (.int .i64 a)
      have D1 : Ch [gx] w2 ((w2.drewN n0).setCell ⟨gx, 20, none⟩ (.int .i64 a)) := ((Ch.refl [gx] w2).drewN n0).setCell (p := ⟨gx, 20, none⟩) (.inl (by simp)) _
      generalize hwa : (w2.drewN n0).setCell ⟨gx, 20, none⟩ (.int .i64 a) = wa at BX1 D1 ⊢
      clear hwa f20 g20
      refine stagePost_mk ?_ ?_
      · intro o' ho'
        simp only [pick, List.map_cons, List.map_nil, List.getD_cons_zero, List.getD_cons_succ, List.mem_cons, List.not_mem_nil, or_false] at ho'
        subst ho'
        refine float_any ?_
        repeat (go_big_quiet_step (first
          | (go_at_call 9; with_reducible exact Calls.quiet_of_same (HM1.out _))
          | (go_at_call 9; with_reducible exact Calls.quiet_of_same (HM2.out _))))
        refine wpQuiet_nil ?_
        rfl
      refine wpStages_step ?_
      try simp only [pick, List.map_cons, List.map_nil, List.getD_cons_zero, List.getD_cons_succ]
      repeat (go_big_quiet_step (first
        | (go_at_call 9; with_reducible exact Calls.quiet_of_same (HM1.out _))
        | (go_at_call 9; with_reducible exact Calls.quiet_of_same (HM2.out _))))
      refine wpQuiet_nil ?_
      intro n1
      try simp only [pick, List.map_cons, List.map_nil, List.getD_cons_zero, List.getD_cons_succ]
      have f21 : (wa.drewN n1).cell? ⟨gx, 21, none⟩ = some (.int .i64 65535) := (BX1.drewN n1).cell 21
      have g21 := (BX1.drewN n1).frozen 21
      go_wp2_with fail
      have BX2 : Blk ((wa.drewN n1).setCell ⟨gx, 21, none⟩ (.int .i64 (60 + b))) gx 61 (rulC (al, ⟨#[]⟩, zeroP, a, 60 + b)) := (BX1.drewN n1).set 21 (.int .i64 (60 + b))
      have D2 : Ch [gx] w2 ((wa.drewN n1).setCell ⟨gx, 21, none⟩ (.int .i64 (60 + b))) := (D1.drewN n1).setCell (p := ⟨gx, 21, none⟩) (.inl (by simp)) _
      generalize hwb : (wa.drewN n1).setCell ⟨gx, 21, none⟩ (.int .i64 (60 + b)) = wb at BX2 D2 ⊢
      clear hwb f21 g21 BX1 D1
      refine stagePost_mk (by simp [pick]) ?_
      refine wpStages_last ?_
      try simp only [pick, List.map_nil]
      repeat (go_big_quiet_step (first
        | (go_at_call 9; with_reducible exact Calls.quiet_of_same (HM1.out _))
        | (go_at_call 9; with_reducible exact Calls.quiet_of_same (HM2.out _))))
      refine wpQuiet_nil ?_
      intro n2
      clear hsum e20 e21 HM1 HM2
      have f20 : (wb.drewN n2).cell? ⟨gx, 20, none⟩ = some (.int .i64 a) := (BX2.drewN n2).cell 20
      have f21 : (wb.drewN n2).cell? ⟨gx, 21, none⟩ = some (.int .i64 (60 + b)) := (BX2.drewN n2).cell 21
      have g20 := (BX2.drewN n2).frozen 20
      have g21 := (BX2.drewN n2).frozen 21
      have D3 := D2.drewN n2
      have B03 := B0.ch D3 (by simp; omega)
      have BO3 := BO.ch D3 (by simp; omega)
      have C3 := C0.step D3 (fun i hi => .inr (by rw [List.mem_singleton] at hi; have := HS.out; omega))
      by_cases hab : a > 60 + b
      · go_wp2_with fail
        go_meet
        exact ⟨60 + b, a, by omega, by omega, by omega, ((BX2.drewN n2).set 20 (.int .i64 (60 + b))).set 21 (.int .i64 a), (B03.far (p := ⟨gx, 20, none⟩) (by simp; omega) _).far (p := ⟨gx, 21, none⟩) (by simp; omega) _, (BO3.far (p := ⟨gx, 20, none⟩) (by simp; omega) _).far (p := ⟨gx, 21, none⟩) (by simp; omega) _, (C3.setCell (p := ⟨gx, 20, none⟩) (.inr (by have := HS.out; show _ ≤ gx; omega)) _).setCell (p := ⟨gx, 21, none⟩) (.inr (by have := HS.out; show _ ≤ gx; omega)) _⟩
      · go_wp2_with fail
        go_meet
        exact ⟨a, 60 + b, by omega, by omega, by omega, BX2.drewN n2, B03, BO3, C3⟩
  case rest =>
    obtain ⟨lo', hi', hl0, hlh, hh1, BX2, B02, BO2, C2⟩ := hcut
    clear BX B0 BO C0
    have e1 := (B02.cell 1).trans HSX.out
    go_upto_if 35 with fail
    by_cases hodd : sx.size % 2 = 1
    · have hob : ((sx.size : Int) % 2 == 1) = true := by simp; omega
      have hp0 : 0 < sx.size := by omega
      have hbr := byt_rng sx 0
      have eb : ((sx[0]'hp0).toNat : Int) = byt sx 0 := byt_get hp0
      have HH : Hid (∀ w, Calls Tryd.prog 40 #[.int .i64 ((sx.size : Int) + byt sx 0)] w fun e w' => e = .returned (.string (hostS ((sx.size : Int) + byt sx 0))) ∧ w' = w) := fun w => (genHostD _ w).mono fun _ _ h => ⟨h.1, h.2.symm⟩
      have HHS := hid (hostS_ok ((sx.size : Int) + byt sx 0))
      have hsum : wrap64 ((sx.size : Int) + byt sx 0) = (sx.size : Int) + byt sx 0 := IntWalk.wrap64_in _ (by omega)
      have hb0 : wrap64 (byt sx 0) = byt sx 0 := IntWalk.wrap64_in _ (by omega)
      generalize hostS ((sx.size : Int) + byt sx 0) = hs at HH HHS
      clear hodd hbr
      go_upto_region 7 with fail
      refine wp_region_stagesM [⟨0, 2, 68719476736⟩, ⟨1, 68719476736, 137438953472⟩, ⟨2, 137438953472, 274877906944⟩, ⟨0, 2, 549755813888⟩, ⟨8, 549755813888, 1099511627776⟩, ⟨16, 1099511627776, 2199023255552⟩, ⟨32, 2199023255552, 4398046511104⟩, ⟨68, 4672924418048, 8796093022208⟩, ⟨128, 8796093022208, 17592186044416⟩, ⟨511, 8, 35184372088832⟩, ⟨1023, 52776558133248, 0⟩] [([0, 1, 2, 3, 4, 5, 6, 7, 8, 9], 10, [])] [] (by kernel_rfl) (by kernel_rfl) ?_
      refine wpStages_step ?_
      try simp only [pick, List.map_cons, List.map_nil, List.getD_cons_zero, List.getD_cons_succ]
      repeat (go_big_quiet_step (first
        | (go_at_call 40; with_reducible exact Calls.quiet_of_same (HH.out _))))
      refine wpQuiet_nil ?_
      intro n3
      try simp only [pick, List.map_cons, List.map_nil, List.getD_cons_zero, List.getD_cons_succ]
      clear e1 eb hsum hob hb0
      have f1 : (wc.drewN n3).cell? ⟨gx, 1, none⟩ = some (.string ⟨#[]⟩) := (BX2.drewN n3).cell 1
      have g1 := (BX2.drewN n3).frozen 1
      go_wp2_with fail
      have BX3 : Blk ((wc.drewN n3).setCell ⟨gx, 1, none⟩ (.string hs)) gx 61 (rulC (al, hs, zeroP, lo', hi')) := (BX2.drewN n3).set 1 (.string hs)
      have D1 : Ch [gx] wc ((wc.drewN n3).setCell ⟨gx, 1, none⟩ (.string hs)) := ((Ch.refl [gx] wc).drewN n3).setCell (p := ⟨gx, 1, none⟩) (.inl (by simp)) _
      generalize hwa : (wc.drewN n3).setCell ⟨gx, 1, none⟩ (.string hs) = wa at BX3 D1 ⊢
      clear hwa f1 g1
      refine stagePost_mk (by simp [pick]) ?_
      refine wpStages_last ?_
      try simp only [pick, List.map_nil]
      repeat (go_big_quiet_step (first
        | (go_at_call 40; with_reducible exact Calls.quiet_of_same (HH.out _))))
      refine wpQuiet_nil ?_
      intro n4
      have D2 := D1.drewN n4
      have BX4 := BX3.drewN n4
      have BO3 := BO2.ch D2 (by simp; omega)
      have C3 := C2.step D2 (fun i hi => .inr (by rw [List.mem_singleton] at hi; have := HS.out; omega))
      clear D1 D2 BX3
      have hok : OkR (al, hs, zeroP, lo', hi') := by
        refine ⟨?_, ⟨rfl, show ∀ x ∈ zeros, 0 ≤ x ∧ x ≤ 255 by decide⟩, by have := HHS.out.2.2; show hs.size ≤ _; omega⟩
        unfold validR
        have h4 := HHS.out.2.1
        have hne : ¬ hs.size = 0 := by omega
        simp only [hne, if_false]
        rw [HHS.out.1]
        simp [hl0, hlh, hh1]
      have HOK := hid hok
      have HIQ := hid (rul_inf (r := (al, hs, zeroP, lo', hi')) hok.2.1.1)
      clear hok
      have HRO := hid (rul_one (al, hs, zeroP, lo', hi'))
      have HLQ : Hid ((rulC dR).length = (rulC (al, hs, zeroP, lo', hi')).length) := rfl
      generalize hq : (al, hs, zeroP, lo', hi') = q at HOK HIQ HRO HLQ BX4
      clear hq
      go_wp2_with (first
        | (refine wpList_load_want rfl 61 _ rfl gx 0 rfl (rulC q) _ BX4.range Tryd.underlying61 rfl HIQ.out ?_)
        | (refine wpList_storeB rfl 61 _ _ rfl (s + 1) 61 (rulC dR) (rulC q) rfl rfl BO3 HIQ.out HLQ.out HRO.out ?_; intro wz BZ DZ Y0))
      try simp only [Exit.inBlock, Exit.then]
      refine bodyPost_ret (results_row1 rfl _ _ rfl BZ Tryd.underlying61 rfl HIQ.out) rfl ?_
      exact ⟨⟨q, rfl, HOK.out⟩, C3.step DZ (fun i hi => .inr (by rw [List.mem_singleton] at hi; have := HS.out; omega))⟩
    · have hob : ((sx.size : Int) % 2 == 1) = false := by simp; omega
      clear hodd e1
      have HIP := hid (pfx_inf (p := pq) HGO.out.g.1)
      have HOV : Hid (overL (rulC (al, ⟨#[]⟩, zeroP, lo', hi')) 2 (pfxC pq) = rulC (al, ⟨#[]⟩, pq, lo', hi')) := overL_app (pfxC pq) [.bool al, .string ⟨#[]⟩] (pfxC zeroP) [.int .i64 lo', .int .i64 hi'] (by rw [pfx_len HGO.out.g.1]; rfl)
      have hok : OkR (al, ⟨#[]⟩, pq, lo', hi') := by
        refine ⟨?_, HGO.out.g, by show (0 : Nat) ≤ _; omega⟩
        unfold validR
        simp only
        rw [if_pos (show (⟨#[]⟩ : ByteArray).size = 0 from rfl), HGO.out.v]
        simp [hl0, hlh, hh1]
      have HOK := hid hok
      have HIQ := hid (rul_inf (r := (al, ⟨#[]⟩, pq, lo', hi')) hok.2.1.1)
      have HLE : Hid (2 + (pfxC pq).length ≤ (rulC (al, ⟨#[]⟩, zeroP, lo', hi')).length) := by show _ ≤ 22; rw [pfx_len HGO.out.g.1]; decide
      clear hok
      have HRO := hid (rul_one (al, ⟨#[]⟩, pq, lo', hi'))
      have HLQ : Hid ((rulC dR).length = (rulC (al, ⟨#[]⟩, pq, lo', hi')).length) := (rul_len (r := dR) rfl).trans (rul_len (r := (al, ⟨#[]⟩, pq, lo', hi')) HGO.out.g.1).symm
      generalize hq : (al, (⟨#[]⟩ : ByteArray), pq, lo', hi') = q at HOK HIQ HRO HLQ HOV
      clear hq
      have HONE := hid (pfx_one pq)
      generalize pfxC pq = pcq at HGP HIP HOV HLE HONE
      generalize rulC (al, ⟨#[]⟩, zeroP, lo', hi') = rcx at BX2 HOV HLE
      go_wp2_with (first
        | (refine wpList_load_want rfl 59 _ rfl s 2 rfl pc _ (B02.rangeMid 2 _ HPC.out) Tryd.underlying59 rfl HIPC.out ?_)
        | (go_at_call 41; (with_reducible refine (HGP.out _).mono ?_); rintro e w5 ⟨rfl, C5⟩; replace BX2 := BX2.ch C5 (by simp); replace BO2 := BO2.ch C5 (by simp); replace C2 := C2.trans C5)
        | (refine wpList_storeM rfl 59 _ _ rfl gx 2 61 rcx pcq (rulC q) rfl rfl BX2 HOV.out HLE.out HIP.out HONE.out ?_; intro w6 BX4 D6 Z6; replace BO2 := BO2.ch D6 (by simp; omega); replace C2 := C2.step D6 (fun i hi => .inr (by rw [List.mem_singleton] at hi; have := HS.out; omega)))
        | (refine wpList_load_want rfl 61 _ rfl gx 0 rfl (rulC q) _ BX4.range Tryd.underlying61 rfl HIQ.out ?_)
        | (refine wpList_storeB rfl 61 _ _ rfl (s + 1) 61 (rulC dR) (rulC q) rfl rfl BO2 HIQ.out HLQ.out HRO.out ?_; intro wz BZ DZ Y0))
      try simp only [Exit.inBlock, Exit.then]
      refine bodyPost_ret (results_row1 rfl _ _ rfl BZ Tryd.underlying61 rfl HIQ.out) rfl ?_
      exact ⟨⟨q, rfl, HOK.out⟩, C2.step DZ (fun i hi => .inr (by rw [List.mem_singleton] at hi; have := HS.out; omega))⟩
end Go.Proofs.YtbmbnibamhgfmaaDoor

/- ginnelgen.Rules (printed by mk_aclw.py). -/
namespace Go.Proofs.YtbmbnibamhgfmaaDoor
open Go.RowKit

def ruleX : Rl := (true, ⟨#[]⟩, zeroP, 0, 65535)
def ruleY : Rl := (true, ⟨#[]⟩, (true, zeros, 0), 0, 65535)
theorem ruleX_ok : OkR ruleX := ⟨by decide +kernel, ⟨rfl, show ∀ x ∈ zeros, 0 ≤ x ∧ x ≤ 255 by decide⟩, by decide⟩
theorem ruleY_ok : OkR ruleY := ⟨by decide +kernel, ⟨rfl, show ∀ x ∈ zeros, 0 ≤ x ∧ x ≤ 255 by decide⟩, by decide⟩
theorem rulOwn {w : World} {B n c : Nat} {t : TypeId} {A : Option Addr} {acc : List Rl} {e : Rl} (h : Own w B t 22 A n c (acc.flatMap rulC ++ rulC e)) : Own w B t 22 A n c ((acc ++ [e]).flatMap rulC) := by
  rw [List.flatMap_append]
  simpa using h
/-- What gen.Rules answers. -/
def RulesRes (w : World) (most : Nat) (all : Bool) (e : Ending) (w' : World) : Prop :=
  (∃ (A' : Option Addr) (c' : Nat) (L : List Rl), e = .returned (.slice A' L.length c') ∧ Own w' w.heap.size 61 22 A' L.length c' (L.flatMap rulC) ∧ L.length ≤ most + 2 ∧ (∀ r ∈ L, OkR r) ∧ (all = false → L.length ≤ most)) ∧ Ch [] w w'
set_option maxRecDepth 100000 in
set_option maxHeartbeats 16000000 in
theorem genRules (w : World) (A : Option Addr) (n cap B : Nat) (L0 : List Rl) (h : Rd w B 22 A n (L0.flatMap rulC)) (hB : B ≤ w.heap.size) (hl : n ≤ 140737488351232) (hG : ∀ r ∈ L0, GoodR r) (most : Nat) (hm : most ≤ 1000) (all : Bool) :
    Calls Tryd.prog 53 #[.slice A n cap, .int .i64 most, .bool all] w (RulesRes w most all) := by
  have hrE := h.rangeE (fun p hp => rul_len (hG p hp).1.1) (by decide)
  have HRE : Hid (0 < n → ∃ b off, A = some ⟨b, off, none⟩ ∧ b < w.heap.size ∧ ∀ (k : Nat) (x : Rl), L0[k]? = some x → w.rangeAt b (off + k * 22) (rulC x)) := fun hn => by
    obtain ⟨b, off, e, hb, hr⟩ := hrE.2 hn
    exact ⟨b, off, e, by omega, hr⟩
  have HN := hid hrE.1
  have HG := hid hG
  clear h hG hrE
  go_enter Tryd.func53, Tryd.ntmps53
  go_wp2_with fail
  go_loopw [7, 8] (fun out i wr => ∃ (k : Nat) (A2 : Option Addr) (c2 : Nat) (acc : List Rl), out = .slice A2 acc.length c2 ∧ i = .int .i64 k ∧ k ≤ n ∧ k ≤ most ∧ acc.length ≤ k ∧ Own wr w.heap.size 61 22 A2 acc.length c2 (acc.flatMap rulC) ∧ Hid (∀ r ∈ acc, OkR r) ∧ Ch [] w wr) (fun _ i _ => n - (intOf i).toNat)
  case atStart => exact ⟨0, none, 0, [], rfl, rfl, by omega, by omega, by simp, Own.nil _ _ _ _, fun r hr => (by cases hr), Ch.refl _ _⟩
  case round =>
    obtain ⟨k, A2, c2, acc, rfl, rfl, hk, hkm, hak, own, HA, CX⟩ := hrel
    by_cases hgo : k < n ∧ k < most
    · obtain ⟨hlt, hl2⟩ := hgo
      obtain ⟨r, hr⟩ : ∃ r, L0[k]? = some r := ⟨_, List.getElem?_eq_getElem (by rw [HN.out]; exact hlt)⟩
      have hgr := HG.out r (List.mem_of_getElem? hr)
      obtain ⟨b, off, rfl, hb, hrx⟩ := HRE.out (by omega)
      have HR := hid (range_ch (hrx k r hr) CX hb (by simp))
      have HIR := hid (rul_inf (r := r) hgr.1.1)
      have HGR := hid (genRule r hgr)
      have hki : (k : Int) < n := by omega
      have hk0 : (0 : Int) ≤ k := by omega
      have hkm2 : (k : Int) < most := by omega
      clear hr hgr hrx hb
      generalize rulC r = rc at HR HIR HGR
      go_wp2_with (first
        | go_big_skip
        | (refine wpList_load_want rfl 61 _ rfl b (off + k * 22) rfl rc _ HR.out Tryd.underlying61 rfl HIR.out ?_)
        | (go_at_call 26; (with_reducible refine (HGR.out _).mono ?_); rintro e w5 ⟨⟨⟨al, sx, ⟨six, bs, pn⟩, rlo, rhi⟩, rfl, hq⟩, C5⟩; have HQ := hid hq; have hq16 := hq.2.1.1; clear hq; obtain ⟨b0, b1, b2, b3, b4, b5, b6, b7, b8, b9, b10, b11, b12, b13, b14, b15, rfl⟩ := len16 hq16; clear hq16; replace own := own.ch C5 (by simp); replace CX := CX.trans C5; clear C5)
        | (refine wpList_buildRows rfl 44 61 1 _ rfl (rulC (al, sx, (six, [b0, b1, b2, b3, b4, b5, b6, b7, b8, b9, b10, b11, b12, b13, b14, b15], pn), rlo, rhi)) _ 22 _ Tryd.underlying44 rul_infoZ (by decide) (by decide) (by kernel_rfl) ?_)
        | (at_builtin; (refine wpList_app _ rfl (.tmp 20) (.tmp 26) _ rfl w.heap.size 61 _ 22 72 Tryd.underlying44 rul_infoZ rfl (by omega) _ _ _ _ rfl (own.alloc _) _ _ _ _ (rulC (al, sx, (six, [b0, b1, b2, b3, b4, b5, b6, b7, b8, b9, b10, b11, b12, b13, b14, b15], pn), rlo, rhi)) rfl (Rd.new w5 22 (rulC (al, sx, (six, [b0, b1, b2, b3, b4, b5, b6, b7, b8, b9, b10, b11, b12, b13, b14, b15], pn), rlo, rhi)) 1 rfl 61) (fun u hu => List.all_eq_true.1 (rul_one _) u hu) (by unfold maxLen; omega) (by omega) (by have := CX.size; simp only [World.size_alloc]; omega) ?_; intro A4 c4 w6 own6 ch6 at6)))
      have hob := own.blks
      go_roundw
      case rel => exact ⟨k + 1, A4, c4, acc ++ [(al, sx, (six, [b0, b1, b2, b3, b4, b5, b6, b7, b8, b9, b10, b11, b12, b13, b14, b15], pn), rlo, rhi)], by simp, by go_num, by omega, by omega, by simp; omega, by rw [List.length_append]; exact rulOwn own6, fun r hr => by
        rcases List.mem_append.1 hr with h | h
        · exact HA.out r h
        · rw [List.mem_singleton] at h
          rw [h]
          exact HQ.out, (CX.alloc _).step ch6 (fun i hi => .inr (hob i hi).1)⟩
      case measure => simp [intOf]; omega
    · have hal : acc.length ≤ most := by omega
      have HEND : Hid (¬ ((k : Int) < n) ∨ (k : Int) < n ∧ ¬ ((k : Int) < most)) := by
        by_cases h1 : k < n
        · exact .inr ⟨by omega, by omega⟩
        · exact .inl (by omega)
      clear hgo
      have hob := own.blks
      have hsz := CX.size
      have HXX := hid (List.all_eq_true.1 (rul_one ruleX))
      rcases HEND.out with h1 | ⟨h1, h2⟩
      · cases all
        · go_wp2_with go_big_skip
          go_ret
          exact ⟨⟨A2, c2, acc, rfl, own, by omega, HA.out, fun _ => hal⟩, CX⟩
        · go_wp2_with (first
            | go_big_skip
            | (refine wpList_buildRows rfl 44 61 2 _ rfl ([ruleX, ruleY].flatMap rulC) _ 22 _ Tryd.underlying44 rul_infoZ (by decide) (by decide) (by kernel_rfl) ?_)
            | (at_builtin; (refine wpList_app _ rfl (.tmp 29) (.tmp 34) _ rfl w.heap.size 61 _ 22 72 Tryd.underlying44 rul_infoZ rfl (by omega) _ _ _ _ rfl (own.alloc _) _ _ _ _ ([ruleX, ruleY].flatMap rulC) rfl (Rd.new wr 22 ([ruleX, ruleY].flatMap rulC) 2 rfl 61) (flatR_one _) (by unfold maxLen; omega) (by omega) (by simp only [World.size_alloc]; omega) ?_; intro A4 c4 w6 own6 ch6 at6)))
          go_ret
          exact ⟨⟨A4, c4, acc ++ [ruleX, ruleY], by simp, by rw [List.length_append, List.flatMap_append]; exact own6, by simp; omega, fun r hr => by
            rcases List.mem_append.1 hr with h | h
            · exact HA.out r h
            · rcases List.mem_cons.1 h with rfl | h
              · exact ruleX_ok
              · rw [List.mem_singleton] at h
                rw [h]
                exact ruleY_ok, fun h => by cases h⟩, (CX.alloc _).step ch6 (fun i hi => .inr (hob i hi).1)⟩
      · cases all
        · go_wp2_with go_big_skip
          go_ret
          exact ⟨⟨A2, c2, acc, rfl, own, by omega, HA.out, fun _ => hal⟩, CX⟩
        · go_wp2_with (first
            | go_big_skip
            | (refine wpList_buildRows rfl 44 61 2 _ rfl ([ruleX, ruleY].flatMap rulC) _ 22 _ Tryd.underlying44 rul_infoZ (by decide) (by decide) (by kernel_rfl) ?_)
            | (at_builtin; (refine wpList_app _ rfl (.tmp 29) (.tmp 34) _ rfl w.heap.size 61 _ 22 72 Tryd.underlying44 rul_infoZ rfl (by omega) _ _ _ _ rfl (own.alloc _) _ _ _ _ ([ruleX, ruleY].flatMap rulC) rfl (Rd.new wr 22 ([ruleX, ruleY].flatMap rulC) 2 rfl 61) (flatR_one _) (by unfold maxLen; omega) (by omega) (by simp only [World.size_alloc]; omega) ?_; intro A4 c4 w6 own6 ch6 at6)))
          go_ret
          exact ⟨⟨A4, c4, acc ++ [ruleX, ruleY], by simp, by rw [List.length_append, List.flatMap_append]; exact own6, by simp; omega, fun r hr => by
            rcases List.mem_append.1 hr with h | h
            · exact HA.out r h
            · rcases List.mem_cons.1 h with rfl | h
              · exact ruleX_ok
              · rw [List.mem_singleton] at h
                rw [h]
                exact ruleY_ok, fun h => by cases h⟩, (CX.alloc _).step ch6 (fun i hi => .inr (hob i hi).1)⟩
end Go.Proofs.YtbmbnibamhgfmaaDoor
