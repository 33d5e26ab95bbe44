/- ginnelgen.Addr and SomeAddr as functions of their arguments. -/
import Derived.Test.YtjpiekljjhgmoaaDoorGenS
namespace Go.Proofs.YtjpiekljjhgmoaaDoor
open Go.RowKit

def addrK (k y : Int) : Bool × List Int :=
  if k = 0 then (false, [8, 8, 8, 8, 0, 0, 0, 0, 0, 0, 0, 0, 0, 0, 0, 0]) else
  if k = 1 then (false, [8, 8, 4, 4, 0, 0, 0, 0, 0, 0, 0, 0, 0, 0, 0, 0]) else
  if k = 2 then (false, [9, 1, 2, 3, 0, 0, 0, 0, 0, 0, 0, 0, 0, 0, 0, 0]) else
  if k = 3 then (false, [10, 0, 0, 1, 0, 0, 0, 0, 0, 0, 0, 0, 0, 0, 0, 0]) else
  if k = 4 then (false, [127, 0, 0, 1, 0, 0, 0, 0, 0, 0, 0, 0, 0, 0, 0, 0]) else
  if k = 5 then (false, [8, 9, 0, y, 0, 0, 0, 0, 0, 0, 0, 0, 0, 0, 0, 0]) else
  if k = 6 then (true, [32, 1, 13, 184, 0, 0, 0, 0, 0, 0, 0, 0, 0, 0, 0, y]) else
  if k = 7 then (true, [42, 0, 0, 0, 0, 0, 0, 0, 0, 0, 0, 0, 0, 0, 0, 5]) else
  if k = 8 then (true, [254, 128, 0, 0, 0, 0, 0, 0, 0, 0, 0, 0, 0, 0, 0, 1]) else
  if k = 9 then (true, [0, 0, 0, 0, 0, 0, 0, 0, 0, 0, 255, 255, 8, 8, 8, 8]) else
  if k = 10 then (true, [32, 2, 0, 0, 0, 0, 0, 0, 0, 0, 0, 0, 0, 0, 0, 1]) else
  if k = 11 then (true, [0, 0, 0, 0, 0, 0, 0, 0, 0, 0, 0, 0, 0, 0, 0, 1]) else
  if k = 12 then (true, [32, 1, 0, 0, 0, 0, 0, 0, 0, 0, 0, 0, 0, 0, 0, y]) else
  (true, [42, 0, 0, 0, 0, 0, 0, 0, 0, 0, 0, 0, 0, 0, 0, y])
def addrN (n : Int) : Bool × List Int := addrK (modI n 14) (n / 16 % 256)
def OkA (r : Bool × List Int) : Prop := GoodA r.2 ∧ validA r.1 r.2 = true
theorem okA_ite {c : Prop} [Decidable c] {a b : Bool × List Int} (ha : OkA a) (hb : OkA b) : OkA (if c then a else b) := by split <;> assumption
theorem okA_mk (six : Bool) (l : List Int) (y : Int) (hy : 0 ≤ y ∧ y ≤ 255) (hl : l.length = 16) (hx : ∀ x ∈ l, x = y ∨ 0 ≤ x ∧ x ≤ 255) (hv : validA six l = true) : OkA (six, l) :=
  ⟨⟨hl, fun x hm => by rcases hx x hm with rfl | h; exact hy; exact h⟩, hv⟩
theorem addrK_good (k y : Int) (hy : 0 ≤ y ∧ y ≤ 255) : OkA (addrK k y) := by
  unfold addrK
  repeat' (refine okA_ite ?_ ?_)
  all_goals exact okA_mk _ _ y hy rfl (by intro x hx; simp only [List.mem_cons, List.not_mem_nil, or_false] at hx; omega) rfl
theorem addrN_good (n : Int) : GoodA (addrN n).2 ∧ validA (addrN n).1 (addrN n).2 = true := addrK_good _ _ (by omega)
set_option maxRecDepth 100000 in
set_option maxHeartbeats 8000000 in
theorem genAddrN (n : Int) (w : World) : Calls Tryd.prog 53 #[.int .i64 n] w fun e w' => e = .returned (.agg (addrC (addrN n).1 (addrN n).2).toArray) ∧ Ch [] w w' := by
  obtain ⟨h0, h1⟩ := modI_rng n 14 (by omega)
  have M1 := hid (fun w => genMod n 14 w (by omega) (by omega))
  unfold addrN
  generalize modI n 14 = k at h0 h1 M1 ⊢
  obtain ⟨y, hy⟩ : ∃ y, n / 16 % 256 = y := ⟨_, rfl⟩
  have y0 : 0 ≤ y ∧ y ≤ 255 := by omega
  obtain rfl | rfl | rfl | rfl | rfl | rfl | rfl | rfl | rfl | rfl | rfl | rfl | rfl | rfl : k = 0 ∨ k = 1 ∨ k = 2 ∨ k = 3 ∨ k = 4 ∨ k = 5 ∨ k = 6 ∨ k = 7 ∨ k = 8 ∨ k = 9 ∨ k = 10 ∨ k = 11 ∨ k = 12 ∨ k = 13 := by omega
  all_goals
    go_enter Tryd.func53, Tryd.ntmps53
    go_wp2_with (first
      | (refine wpList_storeB rfl 24 _ _ rfl w.heap.size 24 (addrC false zeros) (addrC _ [_, _, _, _, _, _, _, _, _, _, _, _, _, _, _, _]) rfl rfl B3 addr_info rfl rfl ?_; intro w2 B2 C2 Z2; have CE := C3.step C2 (fun i hi => .inr (by simp at hi; omega)))
      | (refine wpList_storeB rfl 24 _ _ rfl w.heap.size 24 (addrC false zeros) (addrC _ [_, _, _, _, _, _, _, _, _, _, _, _, _, _, _, _]) rfl rfl (Blk.new _ _ _) addr_info rfl rfl ?_; intro w2 B2 C2 Z2; have CE := ((Ch.refl [] w).alloc _).step C2 (fun i hi => .inr (by simp at hi; omega)))
      | (go_at_call 46; (with_reducible refine (v4R _ _ _ _ _).mono ?_); rintro e w3 ⟨rfl, C4⟩; have B3 := (Blk.new w 24 (addrC false zeros)).ch C4 (by simp); have C3 := ((Ch.refl [] w).alloc _).trans C4)
      | (go_at_call 9; (with_reducible refine (M1.out _).mono ?_); rintro e w2 ⟨rfl, rfl⟩))
    try simp only [Exit.inBlock, Exit.then]
    refine bodyPost_ret (results_row1 rfl _ _ rfl B2 Tryd.underlying24 rfl addr_info) rfl ?_
    exact ⟨by (try rw [hy]); rfl, CE⟩

def someA (six : Bool) (bs : List Int) : Bool × List Int :=
  if at_ bs 7 % 5 = 0 then (six, bs) else if at_ bs 7 % 5 = 1 then (six, vldA six bs) else addrN (bits .or .i64 (at_ bs 0) (at_ bs 1 * 256))
theorem someA_good {six : Bool} {bs : List Int} (h : GoodA bs) : GoodA (someA six bs).2 := by
  unfold someA
  split
  · exact h
  · split
    · exact (vldA_good h).1
    · exact (addrN_good _).1
set_option maxRecDepth 20000 in
set_option maxHeartbeats 4000000 in
theorem genSome (six : Bool) (bs : List Int) (hg : GoodA bs) (w : World) : Calls Tryd.prog 24 #[.agg (addrC six bs).toArray] w fun e w' => e = .returned (.agg (addrC (someA six bs).1 (someA six bs).2).toArray) ∧ Ch [] w w' := by
  have hB1 : Blk ((w.alloc (.cells (addrC six bs).toArray 24)).alloc (.cells #[.bool false, .int .u8 0, .int .u8 0, .int .u8 0, .int .u8 0, .int .u8 0, .int .u8 0, .int .u8 0, .int .u8 0, .int .u8 0, .int .u8 0, .int .u8 0, .int .u8 0, .int .u8 0, .int .u8 0, .int .u8 0, .int .u8 0] 24)) w.heap.size 24 (addrC six bs) := (Blk.new w _ _).alloc _
  have hB2 : Blk ((w.alloc (.cells (addrC six bs).toArray 24)).alloc (.cells #[.bool false, .int .u8 0, .int .u8 0, .int .u8 0, .int .u8 0, .int .u8 0, .int .u8 0, .int .u8 0, .int .u8 0, .int .u8 0, .int .u8 0, .int .u8 0, .int .u8 0, .int .u8 0, .int .u8 0, .int .u8 0, .int .u8 0] 24)) (w.heap.size + 1) 24 (addrC false zeros) := Blk.newAt _ _ (addrC false zeros) (by simp)
  have hC : Ch [] w ((w.alloc (.cells (addrC six bs).toArray 24)).alloc (.cells #[.bool false, .int .u8 0, .int .u8 0, .int .u8 0, .int .u8 0, .int .u8 0, .int .u8 0, .int .u8 0, .int .u8 0, .int .u8 0, .int .u8 0, .int .u8 0, .int .u8 0, .int .u8 0, .int .u8 0, .int .u8 0, .int .u8 0] 24)) := ((Ch.refl _ _).alloc _).alloc _
  have c7 : ((w.alloc (.cells (addrC six bs).toArray 24)).alloc (.cells #[.bool false, .int .u8 0, .int .u8 0, .int .u8 0, .int .u8 0, .int .u8 0, .int .u8 0, .int .u8 0, .int .u8 0, .int .u8 0, .int .u8 0, .int .u8 0, .int .u8 0, .int .u8 0, .int .u8 0, .int .u8 0, .int .u8 0] 24)).cell? ⟨w.heap.size, 8, none⟩ = some (.int .u8 (at_ bs 7)) := by rw [hB1.cell]; exact addrC_byte (k := 7) (by rw [hg.1]; omega)
  have c0 : ((w.alloc (.cells (addrC six bs).toArray 24)).alloc (.cells #[.bool false, .int .u8 0, .int .u8 0, .int .u8 0, .int .u8 0, .int .u8 0, .int .u8 0, .int .u8 0, .int .u8 0, .int .u8 0, .int .u8 0, .int .u8 0, .int .u8 0, .int .u8 0, .int .u8 0, .int .u8 0, .int .u8 0] 24)).cell? ⟨w.heap.size, 1, none⟩ = some (.int .u8 (at_ bs 0)) := by rw [hB1.cell]; exact addrC_byte (k := 0) (by rw [hg.1]; omega)
  have c1 : ((w.alloc (.cells (addrC six bs).toArray 24)).alloc (.cells #[.bool false, .int .u8 0, .int .u8 0, .int .u8 0, .int .u8 0, .int .u8 0, .int .u8 0, .int .u8 0, .int .u8 0, .int .u8 0, .int .u8 0, .int .u8 0, .int .u8 0, .int .u8 0, .int .u8 0, .int .u8 0, .int .u8 0] 24)).cell? ⟨w.heap.size, 2, none⟩ = some (.int .u8 (at_ bs 1)) := by rw [hB1.cell]; exact addrC_byte (k := 1) (by rw [hg.1]; omega)
  obtain ⟨x0, x1⟩ := hg.at (show 0 < 16 by omega)
  obtain ⟨y0, y1⟩ := hg.at (show 1 < 16 by omega)
  obtain ⟨z0, z1⟩ := hg.at (show 7 < 16 by omega)
  have HV := hid (genValid six bs hg)
  have HI := hid (addr_inf (six := six) hg.1)
  have HIV := hid (addr_inf (six := six) (vldA_good (six := six) hg).1.1)
  have HLV := hid (vldA_good (six := six) hg).1.1
  have HL := hid hg.1
  clear hg
  unfold someA
  by_cases h0 : at_ bs 7 % 5 = 0
  · rw [if_pos h0]
    obtain ⟨z, hz⟩ : ∃ z, at_ bs 7 = z := ⟨_, rfl⟩
    rw [hz] at c7 h0 z0 z1
    have d0 : (z % 5 == 0) = true := by simpa using h0
    clear h0 hz
    obtain ⟨vs, hvs⟩ : ∃ vs, (addrC six bs).toArray = vs := ⟨_, rfl⟩
    rw [hvs] at hB1 hB2 hC c7 c0 c1
    show Calls Tryd.prog 24 #[.agg (addrC six bs).toArray] w fun e w' => e = .returned (.agg (addrC six bs).toArray) ∧ Ch [] w w'
    have HVS := hid hvs
    rw [hvs]
    clear hvs
    go_enter Tryd.func24, Tryd.ntmps24
    go_wp2_with (first
      | (refine wpList_loadB rfl 24 _ rfl w.heap.size 24 (addrC six bs) _ rfl hB1 Tryd.underlying24 rfl HI.out ?_)
      | (refine wpList_storeB rfl 24 _ _ rfl (w.heap.size + 1) 24 (addrC false zeros) (addrC six bs) rfl rfl hB2 HI.out ((addr_len (six := false) (bs := zeros) rfl).trans (addr_len HL.out).symm) (addr_one' _ _) ?_; intro w5 B5 C5 Z5))
    try simp only [Exit.inBlock, Exit.then]
    refine bodyPost_ret (results_row1 rfl _ _ rfl B5 Tryd.underlying24 rfl HI.out) rfl ?_
    exact ⟨by rw [HVS.out], hC.step C5 (fun i hi => .inr (by simp at hi; omega))⟩
  · rw [if_neg h0]
    by_cases h1 : at_ bs 7 % 5 = 1
    · rw [if_pos h1]
      obtain ⟨z, hz⟩ : ∃ z, at_ bs 7 = z := ⟨_, rfl⟩
      rw [hz] at c7 h1 z0 z1
      have d0 : (z % 5 == 0) = false := by simp; omega
      have d1 : (z % 5 == 1) = true := by simpa using h1
      clear h0 h1 hz
      show Calls Tryd.prog 24 #[.agg (addrC six bs).toArray] w fun e w' => e = .returned (.agg (addrC six (vldA six bs)).toArray) ∧ Ch [] w w'
      go_enter Tryd.func24, Tryd.ntmps24
      go_wp2_with (first
        | (refine wpList_loadB rfl 24 _ rfl w.heap.size 24 (addrC six bs) _ rfl hB1 Tryd.underlying24 rfl HI.out ?_)
        | (go_at_call 8; (with_reducible refine (HV.out _).mono ?_); rintro e w3 ⟨rfl, C3⟩; have B3 := hB2.ch C3 (by simp); have CC3 := hC.trans C3)
        | (refine wpList_storeB rfl 24 _ _ rfl (w.heap.size + 1) 24 (addrC false zeros) (addrC six (vldA six bs)) rfl rfl B3 HIV.out ((addr_len (six := false) (bs := zeros) rfl).trans (addr_len HLV.out).symm) (addr_one' _ _) ?_; intro w5 B5 C5 Z5))
      try simp only [Exit.inBlock, Exit.then]
      refine bodyPost_ret (results_row1 rfl _ _ rfl B5 Tryd.underlying24 rfl HIV.out) rfl ?_
      exact ⟨rfl, CC3.step C5 (fun i hi => .inr (by simp at hi; omega))⟩
    · rw [if_neg h1]
      obtain ⟨z, hz⟩ : ∃ z, at_ bs 7 = z := ⟨_, rfl⟩
      rw [hz] at c7 h0 h1 z0 z1
      have d0 : (z % 5 == 0) = false := by simpa using h0
      have d1 : (z % 5 == 1) = false := by simpa using h1
      clear h0 h1 hz HV HIV HLV
      have HG := hid (addrN_good (bits .or .i64 (at_ bs 0) (at_ bs 1 * 256)))
      have HN := hid (genAddrN (bits .or .i64 (at_ bs 0) (at_ bs 1 * 256)))
      generalize addrN (bits .or .i64 (at_ bs 0) (at_ bs 1 * 256)) = r at HN HG ⊢
      obtain ⟨s6, rs⟩ := r
      obtain ⟨⟨hrl, _⟩, _⟩ := HG.out
      have HI2 := hid (addr_inf (six := s6) hrl)
      have HRL := hid hrl
      clear hrl
      generalize at_ bs 0 = x at c0 x0 x1 HN
      generalize at_ bs 1 = y at c1 y0 y1 HN
      show Calls Tryd.prog 24 #[.agg (addrC six bs).toArray] w fun e w' => e = .returned (.agg (addrC s6 rs).toArray) ∧ Ch [] w w'
      go_enter Tryd.func24, Tryd.ntmps24
      go_wp2_with (first
        | (go_at_call 53; (with_reducible refine (HN.out _).mono ?_); rintro e w3 ⟨rfl, C3⟩; have B3 := hB2.ch C3 (by simp); have CC3 := hC.trans C3)
        | (refine wpList_storeB rfl 24 _ _ rfl (w.heap.size + 1) 24 (addrC false zeros) (addrC s6 rs) rfl rfl B3 HI2.out ((addr_len (six := false) (bs := zeros) rfl).trans (addr_len HRL.out).symm) (addr_one' _ _) ?_; intro w5 B5 C5 Z5))
      try simp only [Exit.inBlock, Exit.then]
      refine bodyPost_ret (results_row1 rfl _ _ rfl B5 Tryd.underlying24 rfl HI2.out) rfl ?_
      exact ⟨rfl, CC3.step C5 (fun i hi => .inr (by simp at hi; omega))⟩
end Go.Proofs.YtjpiekljjhgmoaaDoor
