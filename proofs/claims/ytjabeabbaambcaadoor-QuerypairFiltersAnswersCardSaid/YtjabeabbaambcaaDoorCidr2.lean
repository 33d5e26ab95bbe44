/- BitLen, Bit. -/
import Derived.Test.YtjabeabbaambcaaDoorAddrEq
namespace Go.Proofs.YtjabeabbaambcaaDoor
open Go.RowKit

def pfxC (p : Pfx) : List Value := addrC p.1 p.2.1 ++ [.int .i64 p.2.2]
theorem bitLenP (six : Bool) (bs : List Int) (w : World) : Calls Tryd.prog 105 #[.agg (addrC six bs).toArray] w fun e w' => e = .returned (.int .i64 (bitL six)) ∧ Ch [] w w' := by
  have hB : Blk (w.alloc (.cells (addrC six bs).toArray 29)) w.heap.size 29 (addrC six bs) := Blk.new w _ _
  have hC : Ch [] w (w.alloc (.cells (addrC six bs).toArray 29)) := (Ch.refl _ _).alloc _
  have c0 : (w.alloc (.cells (addrC six bs).toArray 29)).cell? ⟨w.heap.size, 0, none⟩ = some (.bool six) := hB.cell 0
  generalize (addrC six bs).toArray = vs at c0 hC ⊢
  clear hB
  cases six
  all_goals
    go_enter Tryd.func105, Tryd.ntmps105
    go_wp2_with fail
    go_ret
    exact ⟨rfl, hC⟩
theorem bitLenR (six : Bool) (bs : List Int) (w : World) : Calls Tryd.prog 24 #[.agg (addrC six bs).toArray] w fun e w' => e = .returned (.int .i64 (bitL six)) ∧ Ch [] w w' := by
  have hB : Blk (w.alloc (.cells (addrC six bs).toArray 29)) w.heap.size 29 (addrC six bs) := Blk.new w _ _
  have hC : Ch [] w (w.alloc (.cells (addrC six bs).toArray 29)) := (Ch.refl _ _).alloc _
  have c0 : (w.alloc (.cells (addrC six bs).toArray 29)).cell? ⟨w.heap.size, 0, none⟩ = some (.bool six) := hB.cell 0
  generalize (addrC six bs).toArray = vs at c0 hC ⊢
  clear hB
  cases six
  all_goals
    go_enter Tryd.func24, Tryd.ntmps24
    go_wp2_with fail
    go_ret
    exact ⟨rfl, hC⟩
theorem bit_rng (bs : List Int) (i : Nat) : bitA bs i = 0 ∨ bitA bs i = 1 := by unfold bitA; omega
set_option maxHeartbeats 2000000 in
theorem w64 (n : Int) (h : -9223372036854775808 ≤ n ∧ n ≤ 9223372036854775807) : wrap64 n = n := by unfold wrap64; omega
theorem and_one (b : Int) (hb : 0 ≤ b ∧ b ≤ 255) : bits .and .u8 b 1 = b % 2 := by
  have hall : ∀ b : Fin 256, bits .and .u8 (b.val : Int) 1 = (b.val : Int) % 2 := by decide +kernel
  obtain ⟨n, rfl⟩ := Int.eq_ofNat_of_zero_le hb.1
  exact hall ⟨n, by omega⟩
set_option maxRecDepth 20000 in
theorem bitR (six : Bool) (bs : List Int) (hg : GoodA bs) (i : Nat) (hi : (i : Int) < bitL six) (w : World) :
    Calls Tryd.prog 49 #[.agg (addrC six bs).toArray, .int .i64 i] w fun e w' => e = .returned (.int .i64 (bitA bs i)) ∧ Ch [] w w' := by
  have hB : Blk (w.alloc (.cells (addrC six bs).toArray 29)) w.heap.size 29 (addrC six bs) := Blk.new w _ _
  have hC : Ch [] w (w.alloc (.cells (addrC six bs).toArray 29)) := (Ch.refl _ _).alloc _
  have hL : bitL six ≤ 128 := by cases six <;> decide
  have HI := hid (addr_inf (six := six) hg.1)
  obtain ⟨q, hq⟩ : ∃ q : Nat, i / 8 = q := ⟨_, rfl⟩
  obtain ⟨r, hr⟩ : ∃ r : Nat, i % 8 = r := ⟨_, rfl⟩
  have hqi : (i : Int) / 8 = q := by omega
  have hri : (i : Int) % 8 = r := by omega
  have hq16 : q < 16 := by omega
  have hbit : bitA bs i = at_ bs q / 2 ^ (7 - r) % 2 := by unfold bitA; rw [hq, hr]
  obtain ⟨x0, x1⟩ := hg.at hq16
  have hcB : ∀ w', Blk w' w.heap.size 29 (addrC six bs) → w'.cell? ⟨w.heap.size, 1 + q, none⟩ = some (.int .u8 (at_ bs q)) := fun w' h => by rw [h.cell, addrC_byte (by rw [hg.1]; exact hq16)]
  have HCB := hid hcB
  have hr8 : r < 8 := by omega
  have h1 := bitLenR six bs
  have H1 := hid h1
  clear h1 hcB hq hr
  generalize bitL six = L at hi hL H1
  rw [hbit]
  generalize at_ bs q = x at HCB hbit x0 x1 ⊢
  clear hbit
  generalize addrC six bs = cs at hB hC HI HCB H1 ⊢
  rcases (show r = 0 ∨ r = 1 ∨ r = 2 ∨ r = 3 ∨ r = 4 ∨ r = 5 ∨ r = 6 ∨ r = 7 by omega) with rfl | rfl | rfl | rfl | rfl | rfl | rfl | rfl
  all_goals
    simp only [Nat.reduceSub, Int.reducePow, Int.ediv_one]
    have hand (y : Int) (hy : 0 ≤ y ∧ y ≤ 255) := and_one y hy
    have HAND := hid hand
    clear hand
    go_enter Tryd.func49, Tryd.ntmps49
    go_wp2_with (first
      | (refine wpList_load_want rfl 29 _ rfl w.heap.size 0 rfl cs _ hB.range Tryd.underlying29 rfl HI.out ?_)
      | (go_at_call 24; (with_reducible refine (H1.out _).mono ?_); rintro e w2 ⟨rfl, C2⟩; have hc := HCB.out _ (hB.ch C2 (by simp))))
    go_ret
    refine ⟨?_, hC.trans C2⟩
    rw [HAND.out _ (by omega)]
    exact congrArg (fun z => Ending.returned (.int .i64 z)) (w64 _ (by omega))
end Go.Proofs.YtjabeabbaambcaaDoor
