/- Several texts in one: Cidr, AddrEq, Cidr2, QuietC, Cidr3, PDec, SplR, PIp4, PGrp, PV6, AppZ, BlkP, Pre6, Cidr4. -/
import Derived.Test.YtbmbnibamhgfmaaDoorMB
import Derived.Test.YtbmbnibamhgfmaaDoorMA
import Derived.BigQuiet
import Derived.Deep.MidRow
import Derived.Lib.AppendZerosOnto
import Derived.Lib.AppendZeros
/- cidr.truncate: an address with its first bits alone. -/
namespace Go.Proofs.YtbmbnibamhgfmaaDoor
open Go.RowKit

theorem fill_set (xs zs : List Int) (k : Nat) (hx : k < xs.length) (hz : k < zs.length) : (xs.take k ++ zs.drop k).set k (at_ xs k) = xs.take (k + 1) ++ zs.drop (k + 1) := by
  have h1 : (xs.take k).length = k := by rw [List.length_take]; omega
  rw [List.set_append_right _ _ (by omega), h1, Nat.sub_self, List.drop_eq_getElem_cons hz, List.set_cons_zero, List.take_succ_eq_append_getElem hx, List.append_assoc]
  simp [at_, List.getD, hx]
theorem fill_at (xs zs : List Int) (k : Nat) (hx : k ≤ xs.length) (hk : k < zs.length) : at_ (xs.take k ++ zs.drop k) k = at_ zs k := by
  simp [at_, List.getD, List.getElem?_append, hx, hk]
theorem addr_set (six : Bool) (bs : List Int) (k : Nat) (v : Int) : (addrC six bs).set (1 + k) (.int .u8 v) = addrC six (bs.set k v) := by
  unfold addrC
  rw [Nat.add_comm, List.set_cons_succ, ← List.map_set]
theorem addr_len {six : Bool} {bs : List Int} (h : bs.length = 16) : (addrC six bs).length = 17 := by unfold addrC; rw [List.length_cons, List.length_map, h]
theorem addr_inf {six : Bool} {bs : List Int} (h : bs.length = 16) : (Tryd.prog.info? 57).map (·.size) = some (addrC six bs).length := by rw [addr_len h]; exact addr_info
theorem addr_one' (six : Bool) (bs : List Int) : (addrC six bs).all (·.oneCell') = true := List.all_eq_true.2 (addr_one six bs)
def GoodA (bs : List Int) : Prop := bs.length = 16 ∧ ∀ x ∈ bs, 0 ≤ x ∧ x ≤ 255
theorem GoodA.at {bs : List Int} (h : GoodA bs) {i : Nat} (hi : i < 16) : 0 ≤ at_ bs i ∧ at_ bs i ≤ 255 := h.2 _ (by simp [at_, List.getD, show i < bs.length from by rw [h.1]; exact hi])
theorem cut_rng {b : Int} (hb : 0 ≤ b ∧ b ≤ 255) (k : Nat) (hk : k ≤ 8) : 0 ≤ cutB b k ∧ cutB b k ≤ 255 := by
  have hall : ∀ b : Fin 256, ∀ k : Fin 9, 0 ≤ cutB b.val k.val ∧ cutB b.val k.val ≤ 255 := by decide +kernel
  obtain ⟨n, rfl⟩ := Int.eq_ofNat_of_zero_le hb.1
  exact hall ⟨n, by omega⟩ ⟨k, by omega⟩
theorem trunc_good {bs : List Int} (h : GoodA bs) (n : Int) : GoodA (truncL bs n) := by
  refine ⟨by rw [trunc_len]; exact h.1, fun x hx => ?_⟩
  obtain ⟨i, hi, rfl⟩ := List.mem_iff_getElem.1 hx
  rw [trunc_len, h.1] at hi
  have h2 := trunc_at bs n i (by rw [h.1]; exact hi)
  have h3 : at_ (truncL bs n) i = (truncL bs n)[i] := by simp [at_, List.getD, trunc_len, h.1, hi]
  rw [← h3, h2]
  exact cut_rng (h.at hi) _ (keep_le _ _)

set_option maxRecDepth 20000 in
set_option maxHeartbeats 4000000 in
theorem truncP (six : Bool) (bs : List Int) (hg : GoodA bs) (n : Int) (h0 : 0 ≤ n) (h1 : n ≤ 128) (w : World) :
    Calls Tryd.prog 59 #[.agg (addrC six bs).toArray, .int .i64 n] w fun e w' => e = .returned (.agg (addrC six (truncL bs n)).toArray) ∧ Ch [] w w' := by
  have hl := hg.1
  have hB : Blk (w.alloc (.cells (addrC six bs).toArray 57)) w.heap.size 57 (addrC six bs) := Blk.new w _ _
  have hC : Ch [] w (w.alloc (.cells (addrC six bs).toArray 57)) := (Ch.refl _ _).alloc _
  have HBV := hid (fun k (hk : k < 16) => hg.at hk)
  have HT := hid (trunc_len bs n)
  have HTA := hid (trunc_at bs n)
  obtain ⟨g, hgs⟩ : ∃ g, w.heap.size = g := ⟨_, rfl⟩
  have hB2 : Blk ((w.alloc (.cells (addrC six bs).toArray 57)).alloc (.cells (addrC false zeros).toArray 57)) (g + 1) 57 (addrC false zeros) := Blk.newAt _ _ _ (by simp [hgs])
  rw [hgs] at hB
  have hB1 := hB.alloc (.cells (addrC false zeros).toArray 57)
  have hC1 := hC.alloc (.cells (addrC false zeros).toArray 57)
  go_enter Tryd.func59, Tryd.ntmps59
  go_wp2_with fail
  go_loopw [7] (fun i wr => ∃ k : Nat, k ≤ 16 ∧ i = .int .i64 k ∧ Blk wr g 57 (addrC six ((truncL bs n).take k ++ bs.drop k)) ∧ Blk wr (g + 1) 57 (addrC false zeros) ∧ Ch [] w wr) (fun i _ => 16 - (intOf i).toNat)
  case atStart => exact ⟨0, by omega, rfl, (by show Blk _ _ _ (addrC six ((truncL bs n).take 0 ++ bs.drop 0)); simp only [List.take_zero, List.drop_zero, List.nil_append]; exact hB1), hB2, hC1⟩
  case round =>
    clear hB hC hB1 hB2 hC1
    obtain ⟨k, hk, rfl, B1, B2, CC⟩ := hrel
    have hgl := B1.lt
    by_cases hlt : k < 16
    · have hfa := fill_at (truncL bs n) bs k (by rw [HT.out]; omega) (by omega)
      have hfs := fill_set (truncL bs n) bs k (by rw [HT.out]; omega) (by omega)
      rw [HTA.out k (by omega)] at hfs
      have hc : wr.cell? ⟨g, 1 + k, none⟩ = some (.int .u8 (at_ bs k)) := by
        rw [B1.cell, addrC_byte (by rw [List.length_append, List.length_take, List.length_drop, HT.out]; omega), hfa]
      have hf : wr.frozen? ⟨g, 1 + k, none⟩ = false := B1.frozen _
      obtain ⟨x0, x1⟩ := HBV.out k hlt
      have hkp : keepB n k = (max 0 (min (n - 8 * k) 8)).toNat := rfl
      obtain ⟨K, hK⟩ : ∃ K, keepB n k = K := ⟨_, rfl⟩
      have hand := and_mask (at_ bs k) ⟨x0, x1⟩ K (by have := keep_le n k; omega)
      rw [hK] at hfs hkp
      have HSET : Hid (∀ m m', Blk (((wr.drewN m).setCell ⟨g, 1 + k, none⟩ (.int .u8 (cutB (at_ bs k) K))).drewN m') g 57 (addrC six ((truncL bs n).take (k + 1) ++ bs.drop (k + 1)))) := by
        intro m m'
        rw [← hfs, ← addr_set]
        exact ((B1.drewN m).set _ _).drewN m'
      have HSET2 : Hid (∀ m m', Blk (((wr.drewN m).setCell ⟨g, 1 + k, none⟩ (.int .u8 (cutB (at_ bs k) K))).drewN m') (g + 1) 57 (addrC false zeros)) := fun m m' => ((B2.drewN m).far (p := ⟨g, 1 + k, none⟩) (by simp) _).drewN m'
      have HSETC : Hid (∀ m m', Ch [] w (((wr.drewN m).setCell ⟨g, 1 + k, none⟩ (.int .u8 (cutB (at_ bs k) K))).drewN m')) := fun m m' => ((CC.drewN m).setCell (p := ⟨g, 1 + k, none⟩) (.inr (by show _ ≤ g; omega)) (.int .u8 (cutB (at_ bs k) K))).drewN m'
      obtain ⟨cv, hcv⟩ : ∃ cv, cutB (at_ bs k) K = cv := ⟨_, rfl⟩
      rw [hcv] at hand HSET HSET2 HSETC
      obtain ⟨r1, hr1⟩ : ∃ r1, min (n - 8 * (k : Int)) 8 = r1 := ⟨_, rfl⟩
      have hr2 : max 0 r1 = (K : Int) := by omega
      have hK8 : K ≤ 8 := by omega
      clear hfs hcv hkp hK hfa
      generalize at_ bs k = x at hc hand x0 x1
      rcases (show K = 0 ∨ K = 1 ∨ K = 2 ∨ K = 3 ∨ K = 4 ∨ K = 5 ∨ K = 6 ∨ K = 7 ∨ K = 8 by omega) with rfl | rfl | rfl | rfl | rfl | rfl | rfl | rfl | rfl
      all_goals
        simp only [maskB, Nat.reduceSub, Int.reducePow, Int.reduceSub] at hand
        go_wp2_with (first
          | (refine wpList_min rfl _ _ _ rfl _ _ _ _ _ rfl rfl hr1 ?_)
          | (refine wpList_max rfl _ _ _ rfl _ _ _ _ _ rfl rfl hr2 ?_))
        refine wp_region_stagesM [⟨0, 32, 65536⟩, ⟨0, 4, 131072⟩, ⟨3, 196608, 262144⟩, ⟨4, 262144, 524288⟩, ⟨0, 64, 1048576⟩, ⟨16, 1048576, 2097152⟩, ⟨32, 2097152, 4194304⟩, ⟨72, 4718592, 8388608⟩, ⟨0, 4, 16777216⟩, ⟨511, 16842752, 33554432⟩, ⟨767, 41943040, 0⟩] [([0, 1, 2, 3, 4, 5, 6, 7, 8, 9], 10, [])] [] (by kernel_rfl) (by kernel_rfl) ?_
        refine wpStages_step ?_
        simp only [pick, List.map_cons, List.map_nil, List.getD_cons_zero, List.getD_cons_succ]
        repeat (go_big_quiet_step (fail))
        refine wpQuiet_nil ?_
        intro n0
        simp only [pick, List.map_cons, List.map_nil, List.getD_cons_zero, List.getD_cons_succ]
        go_wp2_with fail
        refine stagePost_mk ?_ ?_
        · intro o ho; simp [pick] at ho
        refine wpStages_last ?_
        simp only [pick, List.map_nil]
        refine wpQuiet_nil ?_
        intro n1
        go_wp2_with fail
        go_roundw
        case rel => exact ⟨k + 1, by omega, by go_num, HSET.out _ _, HSET2.out _ _, HSETC.out _ _⟩
        case measure => simp [intOf]; omega
    · obtain rfl : k = 16 := by omega
      have hfull : (truncL bs n).take 16 ++ bs.drop 16 = truncL bs n := by
        rw [List.drop_eq_nil_of_le (by omega), List.append_nil, List.take_of_length_le (by rw [HT.out]; omega)]
      rw [hfull] at B1
      have HI := hid (addr_inf (six := six) (bs := truncL bs n) (by rw [HT.out]; exact hl))
      go_wp2_with (first
        | (refine wpList_loadB rfl 57 _ rfl g 57 (addrC six (truncL bs n)) _ rfl B1 Tryd.underlying57 rfl HI.out ?_)
        | (refine wpList_storeB rfl 57 _ _ rfl (g + 1) 57 (addrC false zeros) (addrC six (truncL bs n)) rfl rfl B2 HI.out ((addr_len (six := false) (bs := zeros) rfl).trans (addr_len (HT.out.trans hl)).symm) (addr_one' _ _) ?_; intro w5 B5 C5 Z5))
      try simp only [Exit.inBlock, Exit.then]
      refine bodyPost_ret (results_row1 rfl _ _ rfl B5 Tryd.underlying57 rfl HI.out) rfl ?_
      exact ⟨rfl, CC.step C5 (fun i hi => .inr (by simp at hi; omega))⟩
end Go.Proofs.YtbmbnibamhgfmaaDoor

/- Two addresses compared. -/
namespace Go.Proofs.YtbmbnibamhgfmaaDoor
open Go.RowKit

set_option maxRecDepth 100000 in
set_option maxHeartbeats 4000000 in
theorem addr_eq0 (six six' : Bool) (b0 b1 b2 b3 b4 b5 b6 b7 b8 b9 b10 b11 b12 b13 b14 b15 c0 c1 c2 c3 c4 c5 c6 c7 c8 c9 c10 c11 c12 c13 c14 c15 : Int) (w : World) :
    (Op.equalIn 10000 57 (.agg #[.bool six, .int .u8 b0, .int .u8 b1, .int .u8 b2, .int .u8 b3, .int .u8 b4, .int .u8 b5, .int .u8 b6, .int .u8 b7, .int .u8 b8, .int .u8 b9, .int .u8 b10, .int .u8 b11, .int .u8 b12, .int .u8 b13, .int .u8 b14, .int .u8 b15]) (.agg #[.bool six', .int .u8 c0, .int .u8 c1, .int .u8 c2, .int .u8 c3, .int .u8 c4, .int .u8 c5, .int .u8 c6, .int .u8 c7, .int .u8 c8, .int .u8 c9, .int .u8 c10, .int .u8 c11, .int .u8 c12, .int .u8 c13, .int .u8 c14, .int .u8 c15])).run Tryd.prog w = .ok (six == six' && decide (b0 = c0 ∧ b1 = c1 ∧ b2 = c2 ∧ b3 = c3 ∧ b4 = c4 ∧ b5 = c5 ∧ b6 = c6 ∧ b7 = c7 ∧ b8 = c8 ∧ b9 = c9 ∧ b10 = c10 ∧ b11 = c11 ∧ b12 = c12 ∧ b13 = c13 ∧ b14 = c14 ∧ b15 = c15)) w := by
  go_simp
  obtain ⟨i, hi, hc⟩ : ∃ i, Tryd.prog.info? 5 = some i ∧ Tryd.prog.cellsOf 5 = 1 := ⟨_, rfl, by kernel_rfl⟩
  rw [run_equalIn_array _ _ _ _ Tryd.underlying55 hi, hc]
  simp only [show List.range 16 = [0, 1, 2, 3, 4, 5, 6, 7, 8, 9, 10, 11, 12, 13, 14, 15] from rfl, Op.eqItems]
  go_simp
  have h (p : Prop) [Decidable p] (x : Bool) : (if p then Result.ok x w else Result.ok false w : Result Bool) = Result.ok (decide p && x) w := by
    by_cases hp : p <;> simp [hp]
  simp only [h, Bool.and_true]
  rfl
theorem addr_eq (six six' : Bool) (a b : List Int) (ha : a.length = 16) (hb : b.length = 16) (w : World) : (Op.equalIn 10000 57 (.agg (addrC six a).toArray) (.agg (addrC six' b).toArray)).run Tryd.prog w = .ok (six == six' && decide (a = b)) w := by
  obtain ⟨b0, b1, b2, b3, b4, b5, b6, b7, b8, b9, b10, b11, b12, b13, b14, b15, rfl⟩ := len16 ha
  obtain ⟨c0, c1, c2, c3, c4, c5, c6, c7, c8, c9, c10, c11, c12, c13, c14, c15, rfl⟩ := len16 hb
  have h := addr_eq0 six six' b0 b1 b2 b3 b4 b5 b6 b7 b8 b9 b10 b11 b12 b13 b14 b15 c0 c1 c2 c3 c4 c5 c6 c7 c8 c9 c10 c11 c12 c13 c14 c15 w
  have e : decide ([b0, b1, b2, b3, b4, b5, b6, b7, b8, b9, b10, b11, b12, b13, b14, b15] = [c0, c1, c2, c3, c4, c5, c6, c7, c8, c9, c10, c11, c12, c13, c14, c15]) = decide (b0 = c0 ∧ b1 = c1 ∧ b2 = c2 ∧ b3 = c3 ∧ b4 = c4 ∧ b5 = c5 ∧ b6 = c6 ∧ b7 = c7 ∧ b8 = c8 ∧ b9 = c9 ∧ b10 = c10 ∧ b11 = c11 ∧ b12 = c12 ∧ b13 = c13 ∧ b14 = c14 ∧ b15 = c15) := by
    apply decide_eq_decide.2
    simp
  rw [e]
  exact h
end Go.Proofs.YtbmbnibamhgfmaaDoor

/- BitLen, Bit. -/
namespace Go.Proofs.YtbmbnibamhgfmaaDoor
open Go.RowKit

def pfxC (p : Pfx) : List Value := addrC p.1 p.2.1 ++ [.int .i64 p.2.2]
theorem bitLenP (six : Bool) (bs : List Int) (w : World) : Calls Tryd.prog 58 #[.agg (addrC six bs).toArray] w fun e w' => e = .returned (.int .i64 (bitL six)) ∧ Ch [] w w' := by
  have hB : Blk (w.alloc (.cells (addrC six bs).toArray 57)) w.heap.size 57 (addrC six bs) := Blk.new w _ _
  have hC : Ch [] w (w.alloc (.cells (addrC six bs).toArray 57)) := (Ch.refl _ _).alloc _
  have c0 : (w.alloc (.cells (addrC six bs).toArray 57)).cell? ⟨w.heap.size, 0, none⟩ = some (.bool six) := hB.cell 0
  generalize (addrC six bs).toArray = vs at c0 hC ⊢
  clear hB
  cases six
  all_goals
    go_enter Tryd.func58, Tryd.ntmps58
    go_wp2_with fail
    go_ret
    exact ⟨rfl, hC⟩
theorem bitLenR (six : Bool) (bs : List Int) (w : World) : Calls Tryd.prog 63 #[.agg (addrC six bs).toArray] w fun e w' => e = .returned (.int .i64 (bitL six)) ∧ Ch [] w w' := by
  have hB : Blk (w.alloc (.cells (addrC six bs).toArray 57)) w.heap.size 57 (addrC six bs) := Blk.new w _ _
  have hC : Ch [] w (w.alloc (.cells (addrC six bs).toArray 57)) := (Ch.refl _ _).alloc _
  have c0 : (w.alloc (.cells (addrC six bs).toArray 57)).cell? ⟨w.heap.size, 0, none⟩ = some (.bool six) := hB.cell 0
  generalize (addrC six bs).toArray = vs at c0 hC ⊢
  clear hB
  cases six
  all_goals
    go_enter Tryd.func63, Tryd.ntmps63
    go_wp2_with fail
    go_ret
    exact ⟨rfl, hC⟩
theorem bit_rng (bs : List Int) (i : Nat) : bitA bs i = 0 ∨ bitA bs i = 1 := by unfold bitA; omega
set_option maxHeartbeats 2000000 in
theorem w64 (n : Int) (h : -9223372036854775808 ≤ n ∧ n ≤ 9223372036854775807) : wrap64 n = n := by unfold wrap64; omega
theorem and_one (b : Int) (hb : 0 ≤ b ∧ b ≤ 255) : bits .and .u8 b 1 = b % 2 := by
  have hall : ∀ b : Fin 256, bits .and .u8 (b.val : Int) 1 = (b.val : Int) % 2 := by decide +kernel
  obtain ⟨n, rfl⟩ := Int.eq_ofNat_of_zero_le hb.1
  exact hall ⟨n, by omega⟩
set_option maxRecDepth 20000 in
theorem bitR (six : Bool) (bs : List Int) (hg : GoodA bs) (i : Nat) (hi : (i : Int) < bitL six) (w : World) :
    Calls Tryd.prog 64 #[.agg (addrC six bs).toArray, .int .i64 i] w fun e w' => e = .returned (.int .i64 (bitA bs i)) ∧ Ch [] w w' := by
  have hB : Blk (w.alloc (.cells (addrC six bs).toArray 57)) w.heap.size 57 (addrC six bs) := Blk.new w _ _
  have hC : Ch [] w (w.alloc (.cells (addrC six bs).toArray 57)) := (Ch.refl _ _).alloc _
  have hL : bitL six ≤ 128 := by cases six <;> decide
  have HI := hid (addr_inf (six := six) hg.1)
  obtain ⟨q, hq⟩ : ∃ q : Nat, i / 8 = q := ⟨_, rfl⟩
  obtain ⟨r, hr⟩ : ∃ r : Nat, i % 8 = r := ⟨_, rfl⟩
  have hqi : (i : Int) / 8 = q := by omega
  have hri : (i : Int) % 8 = r := by omega
  have hq16 : q < 16 := by omega
  have hbit : bitA bs i = at_ bs q / 2 ^ (7 - r) % 2 := by unfold bitA; rw [hq, hr]
  obtain ⟨x0, x1⟩ := hg.at hq16
  have hcB : ∀ w', Blk w' w.heap.size 57 (addrC six bs) → w'.cell? ⟨w.heap.size, 1 + q, none⟩ = some (.int .u8 (at_ bs q)) := fun w' h => by rw [h.cell, addrC_byte (by rw [hg.1]; exact hq16)]
  have HCB := hid hcB
  have hr8 : r < 8 := by omega
  have h1 := bitLenR six bs
  have H1 := hid h1
  clear h1 hcB hq hr
  generalize bitL six = L at hi hL H1
  rw [hbit]
  generalize at_ bs q = x at HCB hbit x0 x1 ⊢
  clear hbit
  generalize addrC six bs = cs at hB hC HI HCB H1 ⊢
  rcases (show r = 0 ∨ r = 1 ∨ r = 2 ∨ r = 3 ∨ r = 4 ∨ r = 5 ∨ r = 6 ∨ r = 7 by omega) with rfl | rfl | rfl | rfl | rfl | rfl | rfl | rfl
  all_goals
    simp only [Nat.reduceSub, Int.reducePow, Int.ediv_one]
    have hand (y : Int) (hy : 0 ≤ y ∧ y ≤ 255) := and_one y hy
    have HAND := hid hand
    clear hand
    go_enter Tryd.func64, Tryd.ntmps64
    go_wp2_with (first
      | (refine wpList_load_want rfl 57 _ rfl w.heap.size 0 rfl cs _ hB.range Tryd.underlying57 rfl HI.out ?_)
      | (go_at_call 63; (with_reducible refine (H1.out _).mono ?_); rintro e w2 ⟨rfl, C2⟩; have hc := HCB.out _ (hB.ch C2 (by simp))))
    go_ret
    refine ⟨?_, hC.trans C2⟩
    rw [HAND.out _ (by omega)]
    exact congrArg (fun z => Ending.returned (.int .i64 z)) (w64 _ (by omega))
end Go.Proofs.YtbmbnibamhgfmaaDoor

/- A region that draws its order, whose operations read old memory and whose calls only make memory: one walk, at the class of worlds that still hold what the first one held. -/
namespace Go.Proofs.YtbmbnibamhgfmaaDoor
open Go.RowKit

section
variable {P : Program} {ops : Array Oper} {C : World → Prop} {Q : Act → Prop} {a : Act} {o : Oper} {rest : List Oper}
theorem wpQuiet_row (hw : Region.wanted o (yielded ops a.tmps) = true) (ty : TypeId) (x : Operand) (ho : o.op = .load ty x) (g off : Nat) (hx : a.eval x = .pointer (some ⟨g, off, none⟩)) (cs : List Value) (d : TypeDesc) (hc : ∀ w, C w → w.rangeAt g off cs)
    (hu : P.underlying ty = some d) (hd : d.isRow = true) (hi : (P.info? ty).map (·.size) = some cs.length) (h : wpQuiet P ops C Q rest (a.put o.dst (.agg cs.toArray))) : wpQuiet P ops C Q (o :: rest) a :=
  BigFrame.wpQuiet_want hw fun K hK => ⟨_, fun w hC => by
    unfold Oper.quietAt execOp
    simp only [ho, hx, Instr.loadAt, Instr.sureAddr, Sem.run_bind, Sem.run_pure, Result.andThen_ok, run_loadVar_mid w g off ty cs d (hc w hC) hu hd hi]
    exact ⟨rfl, rfl⟩, hK _ h⟩
/-- The worlds that hold what a first one held. -/
def After (w : World) : Type := { u : World // Ch [] w u }
def After.w {w : World} (x : After w) : World := x.val
instance (w : World) : Nonempty (After w) := ⟨⟨w, Ch.refl _ _⟩⟩
theorem After.ch {w : World} (x : After w) : Ch [] w x.w := x.property
theorem wp_region_quietA {id : Nat} {Q : Exit → Act → World → Prop} {a : Act} {w : World} {l : List Oper} (w0 : World) (hm : P.follows .mixedOrders = true) (hB : Region.lexB .any l.toArray = true) (hC : Ch [] w0 w)
    (h : wpQuiet P l.toArray (fun w' => ∃ x : After w0, w' = x.w) (fun a' => ∀ w', Ch [] w0 w' → Q .normal a' w') l a) : (Code.region id l.toArray true).wp P Q a w :=
  wp_region_quiet (C := fun w' => ∃ x : After w0, w' = x.w) hm hB ⟨⟨_, hC.drew⟩, rfl⟩ (by
    rw [List.toList_toArray]
    exact wpQuiet_mono (fun a' hh w' ⟨x, hx⟩ => by subst hx; exact hh _ x.ch) _ _ h)
theorem wpQuiet_rowA {w0 : World} (hw : Region.wanted o (yielded ops a.tmps) = true) (ty : TypeId) (x : Operand) (ho : o.op = .load ty x) (g off : Nat) (hx : a.eval x = .pointer (some ⟨g, off, none⟩)) (cs : List Value) (d : TypeDesc) (hc : ∀ w, Ch [] w0 w → w.rangeAt g off cs)
    (hu : P.underlying ty = some d) (hd : d.isRow = true) (hi : (P.info? ty).map (·.size) = some cs.length) (h : wpQuiet P ops (fun w' => ∃ x : After w0, w' = x.w) Q rest (a.put o.dst (.agg cs.toArray))) : wpQuiet P ops (fun w' => ∃ x : After w0, w' = x.w) Q (o :: rest) a :=
  wpQuiet_row hw ty x ho g off hx cs d (fun w ⟨y, hy⟩ => by subst hy; exact hc _ y.ch) hu hd hi h
theorem quiet_rowA {w0 : World} {K : Act → Prop} (ty : TypeId) (x : Operand) (ho : o.op = .load ty x) (g off : Nat) (hx : a.eval x = .pointer (some ⟨g, off, none⟩)) (cs : List Value) (d : TypeDesc) (hc : ∀ w, Ch [] w0 w → w.rangeAt g off cs)
    (hu : P.underlying ty = some d) (hd : d.isRow = true) (hi : (P.info? ty).map (·.size) = some cs.length) (h : K (a.put o.dst (.agg cs.toArray))) : o.quiet P a (fun w' => ∃ x : After w0, w' = x.w) K :=
  ⟨_, fun w ⟨y, hy⟩ => by
    subst hy
    unfold Oper.quietAt execOp
    simp only [ho, hx, Instr.loadAt, Instr.sureAddr, Sem.run_bind, Sem.run_pure, Result.andThen_ok, run_loadVar_mid _ g off ty cs d (hc _ y.ch) hu hd hi]
    exact ⟨rfl, rfl⟩, h⟩
theorem after_of {w0 : World} {x : After w0} {f : FuncId} {args : Array Value} {v : Value} (h : Calls P f args x.w fun e w' => e = .returned v ∧ Ch [] x.w w') : Calls P f args x.w fun e w' => e = .returned v ∧ ∃ y : After w0, w' = y.w :=
  h.mono fun _ w' ⟨he, hc⟩ => ⟨he, ⟨w', x.ch.trans hc⟩, rfl⟩
end
end Go.Proofs.YtbmbnibamhgfmaaDoor

/- cidr.Valid, cidr.Contains. -/
namespace Go.Proofs.YtbmbnibamhgfmaaDoor
open Go.RowKit

theorem pfx_len {p : Pfx} (h : p.2.1.length = 16) : (pfxC p).length = 18 := by unfold pfxC; rw [List.length_append, addr_len h]; rfl
theorem pfx_info : (Tryd.prog.info? 59).map (·.size) = some 18 := by kernel_rfl
theorem pfx_inf {p : Pfx} (h : p.2.1.length = 16) : (Tryd.prog.info? 59).map (·.size) = some (pfxC p).length := by rw [pfx_len h]; exact pfx_info
theorem pfx_bits {p : Pfx} (h : p.2.1.length = 16) : (pfxC p)[17]? = some (.int .i64 p.2.2) := by
  unfold pfxC
  rw [List.getElem?_append_right (by rw [addr_len h]; omega), addr_len h]; rfl
theorem pfx_addr {p : Pfx} {j : Nat} {v : Value} (hj : (addrC p.1 p.2.1)[j]? = some v) : (pfxC p)[0 + j]? = some v := by
  unfold pfxC
  rw [Nat.zero_add, List.getElem?_append_left (List.getElem?_eq_some_iff.1 hj).1]
  exact hj
theorem pfx_one (p : Pfx) : (pfxC p).all (·.oneCell') = true := by
  unfold pfxC
  rw [List.all_append, addr_one']
  rfl

set_option maxRecDepth 20000 in
set_option maxHeartbeats 4000000 in
theorem validPfx (six : Bool) (bs : List Int) (n : Int) (hg : GoodA bs) (w : World) :
    Calls Tryd.prog 36 #[.agg (pfxC (six, bs, n)).toArray] w fun e w' => e = .returned (.bool (validP (six, bs, n))) ∧ Ch [] w w' := by
  have hC0 : Ch [] w (w.alloc (.cells (pfxC (six, bs, n)).toArray 59)) := (Ch.refl _ _).alloc _
  have hB : Blk (w.alloc (.cells (pfxC (six, bs, n)).toArray 59)) w.heap.size 59 (pfxC (six, bs, n)) := Blk.new w _ _
  have HBL := hid (bitLenP six bs)
  have HIV := hid (ipValid six bs hg.1 hg.2)
  have HTR := hid (fun h0 h1 => truncP six bs hg n h0 h1)
  have HEQ := fun w => addr_eq six six (truncL bs n) bs (trunc_good hg n).1 hg.1 w
  have HI := hid (addr_inf (six := six) hg.1)
  have h17 := pfx_bits (p := (six, bs, n)) hg.1
  have hr : ∀ w', Ch [] (w.alloc (.cells (pfxC (six, bs, n)).toArray 59)) w' → w'.rangeAt w.heap.size 0 (addrC six bs) := fun w' h => (hB.ch h (by simp)).rangeMid 0 _ (fun j v hj => pfx_addr (p := (six, bs, n)) hj)
  have hc : ∀ w', Ch [] (w.alloc (.cells (pfxC (six, bs, n)).toArray 59)) w' → w'.cell? ⟨w.heap.size, 17, none⟩ = some (.int .i64 n) := fun w' h => ((hB.ch h (by simp)).cell 17).trans h17
  have HR := hid hr
  have hcA : ∀ x : After (w.alloc (.cells (pfxC (six, bs, n)).toArray 59)), x.w.cell? ⟨w.heap.size, 17, none⟩ = some (.int .i64 n) := fun x => hc _ x.ch
  have hL : bitL six ≤ 128 := by cases six <;> decide
  obtain ⟨V, hV⟩ : ∃ V, validP (six, bs, n) = V := ⟨_, rfl⟩
  rw [hV]
  unfold validP at hV
  generalize pfxC (six, bs, n) = cs at hC0 HR hcA ⊢
  clear hB hr hc h17
  cases hva : validA six bs with
  | false =>
    rw [hva] at HIV hV
    obtain rfl : V = false := by rw [← hV]; rfl
    go_enter Tryd.func36, Tryd.ntmps36
    go_wp2_with fail
    refine wp_region_quietA (w.alloc (.cells cs.toArray 59)) (by kernel_rfl) (by kernel_rfl) (Ch.refl _ _) ?_
    repeat (first
      | (go_big_quiet_want; refine quiet_rowA 57 _ rfl w.heap.size 0 rfl (addrC six bs) _ HR.out Tryd.underlying57 rfl HI.out ?_; simp only [Act.put, List.setIfInBounds_toArray, List.set_cons_succ, List.set_cons_zero]; go_big_quiet_on)
      | go_big_quiet_step (first
        | (go_at_call 57; exact after_of (HIV.out _))))
    refine wpQuiet_nil ?_
    intro wq hwq

    go_wp2_with fail
    go_ret
    exact ⟨rfl, hC0.trans hwq⟩
  | true =>
    rw [hva] at HIV hV
    by_cases h0 : 0 ≤ n
    case neg =>
      obtain rfl : V = false := by rw [← hV]; simp [h0]
      have hd0 : decide (0 ≤ n) = false := by simpa using h0
      go_enter Tryd.func36, Tryd.ntmps36
      go_wp2_with fail
      refine wp_region_quietA (w.alloc (.cells cs.toArray 59)) (by kernel_rfl) (by kernel_rfl) (Ch.refl _ _) ?_
      repeat (first
        | (go_big_quiet_want; refine quiet_rowA 57 _ rfl w.heap.size 0 rfl (addrC six bs) _ HR.out Tryd.underlying57 rfl HI.out ?_; simp only [Act.put, List.setIfInBounds_toArray, List.set_cons_succ, List.set_cons_zero]; go_big_quiet_on)
        | go_big_quiet_step (first
          | (go_at_call 57; exact after_of (HIV.out _))))
      refine wpQuiet_nil ?_
      intro wq hwq

      go_wp2_with fail
      go_ret
      exact ⟨rfl, hC0.trans hwq⟩
    have hd0 : decide (0 ≤ n) = true := by simpa using h0
    by_cases h1 : n ≤ bitL six
    case neg =>
      obtain rfl : V = false := by rw [← hV]; simp [h1]
      have hd1 : decide (n ≤ bitL six) = false := by simpa using h1
      go_enter Tryd.func36, Tryd.ntmps36
      go_wp2_with fail
      refine wp_region_quietA (w.alloc (.cells cs.toArray 59)) (by kernel_rfl) (by kernel_rfl) (Ch.refl _ _) ?_
      repeat (first
        | (go_big_quiet_want; refine quiet_rowA 57 _ rfl w.heap.size 0 rfl (addrC six bs) _ HR.out Tryd.underlying57 rfl HI.out ?_; simp only [Act.put, List.setIfInBounds_toArray, List.set_cons_succ, List.set_cons_zero]; go_big_quiet_on)
        | go_big_quiet_step (first
          | (go_at_call 57; exact after_of (HIV.out _))
          | (go_at_call 58; exact after_of (HBL.out _))))
      refine wpQuiet_nil ?_
      intro wq hwq

      go_wp2_with fail
      go_ret
      exact ⟨rfl, hC0.trans hwq⟩
    have HT2 := hid (HTR.out h0 (by omega))
    have hd1 : decide (n ≤ bitL six) = true := by simpa using h1
    have hVd : decide (truncL bs n = bs) = V := by rw [← hV]; simp [h0, h1]
    simp only [beq_self_eq_true, Bool.true_and, hVd] at HEQ
    go_enter Tryd.func36, Tryd.ntmps36
    go_wp2_with fail
    refine wp_region_quietA (w.alloc (.cells cs.toArray 59)) (by kernel_rfl) (by kernel_rfl) (Ch.refl _ _) ?_
    repeat (first
      | (go_big_quiet_want; refine quiet_rowA 57 _ rfl w.heap.size 0 rfl (addrC six bs) _ HR.out Tryd.underlying57 rfl HI.out ?_; simp only [Act.put, List.setIfInBounds_toArray, List.set_cons_succ, List.set_cons_zero]; go_big_quiet_on)
      | go_big_quiet_step (first
        | (go_at_call 57; exact after_of (HIV.out _))
        | (go_at_call 58; exact after_of (HBL.out _))
        | (go_at_call 59; exact after_of (HT2.out _))))
    refine wpQuiet_nil ?_
    intro wq hwq

    go_wp2_with fail
    go_ret
    exact ⟨rfl, hC0.trans hwq⟩
end Go.Proofs.YtbmbnibamhgfmaaDoor

/- ginnelref07.ParseDecimal and parseGroup where they succeed. -/
namespace Go.Proofs.YtbmbnibamhgfmaaDoor
open Go.RowKit

theorem decV_le : ∀ (l : List Int) (m N : Int), 0 ≤ m → decV l m = some N → m ≤ N
  | [], m, N, _, h => by simp [decV] at h; omega
  | c :: l, m, N, h0, h => by
    unfold decV at h
    split at h
    · have := decV_le l _ N (by omega) h; omega
    · cases h
theorem decV_cons {c : Int} {l : List Int} {m N : Int} (h : decV (c :: l) m = some N) : 48 ≤ c ∧ c ≤ 57 ∧ decV l (10 * m + (c - 48)) = some N := by
  unfold decV at h
  split at h
  · rename_i hc; exact ⟨hc.1, hc.2, h⟩
  · cases h
theorem hexV_le : ∀ (l : List Int) (m N : Int), 0 ≤ m → hexV l m = some N → m ≤ N ∧ N + 1 ≤ (m + 1) * 16 ^ l.length
  | [], m, N, _, h => by simp [hexV] at h; subst h; simp
  | c :: l, m, N, h0, h => by
    unfold hexV at h
    split at h
    · rename_i d hd
      have hd2 : 0 ≤ d ∧ d ≤ 15 := by
        unfold hexD at hd
        split at hd
        · simp at hd; omega
        · split at hd
          · simp at hd; omega
          · split at hd
            · simp at hd; omega
            · cases hd
      obtain ⟨h1, h2⟩ := hexV_le l _ N (by omega) h
      refine ⟨by omega, ?_⟩
      rw [List.length_cons, Int.pow_succ, Int.mul_comm (16 ^ l.length) 16, ← Int.mul_assoc]
      refine Int.le_trans h2 (Int.mul_le_mul_of_nonneg_right (by omega) (Int.pow_nonneg (by omega)))
    · cases h
theorem hexV_cons {c : Int} {l : List Int} {m N : Int} (h : hexV (c :: l) m = some N) : ((48 ≤ c ∧ c ≤ 57) ∧ hexV l (16 * m + (c - 48)) = some N) ∨ ((97 ≤ c ∧ c ≤ 102) ∧ hexV l (16 * m + (c - 87)) = some N) ∨ ((65 ≤ c ∧ c ≤ 70) ∧ hexV l (16 * m + (c - 55)) = some N) := by
  unfold hexV hexD at h
  split at h
  · rename_i d hd
    split at hd
    · rename_i hc; simp at hd; subst hd; exact .inl ⟨hc, h⟩
    · split at hd
      · rename_i hc; simp at hd; subst hd; exact .inr (.inl ⟨hc, h⟩)
      · split at hd
        · rename_i hc; simp at hd; subst hd; exact .inr (.inr ⟨hc, h⟩)
        · cases hd
  · cases h
theorem nums_dropc (s : ByteArray) (k : Nat) (h : k < s.size) : (numsOf s).drop k = byt s k :: (numsOf s).drop (k + 1) := by
  rw [List.drop_eq_getElem_cons (by rw [numsOf_length]; exact h), byt_at h]
  simp [at_, List.getD, numsOf_length, h]

set_option maxHeartbeats 2000000 in
theorem refDec (s : ByteArray) (most n : Int) (h : decP (numsOf s) most = some n) (hm : most ≤ 100000) (w : World) : Calls Tryd.prog 74 #[.string s, .int .i64 most] w fun e w' => e = .returned (.int .i64 n) ∧ w = w' := by
  unfold decP at h
  split at h
  case isFalse => cases h
  rename_i hc
  rw [numsOf_length] at hc
  obtain ⟨hs1, hs6, hz⟩ := hc
  split at h
  case h_2 => cases h
  rename_i N hN
  split at h
  case isFalse => cases h
  rename_i hle
  obtain rfl : N = n := Option.some.inj h
  have hp0 : 0 < s.size := by omega
  rw [← byt_at hp0] at hz
  have hne : s.toList.isEmpty = false := notEmp hp0
  have hp0i : (0 : Int) < s.size := by omega
  have hs6i : ¬ (6 : Int) < s.size := by omega
  have e0 : ((s[0]'hp0).toNat : Int) = byt s 0 := byt_get hp0
  have HN := hid hN
  clear h hN
  rcases (show (byt s 0 ≠ 48) ∨ (byt s 0 = 48 ∧ s.size = 1) by omega) with h48 | ⟨h48, h1⟩
  · have d0 : (byt s 0 == 48) = false := by simpa using h48
    clear h48 hz
    generalize byt s 0 = x at e0 d0
    go_enter Tryd.func74, Tryd.ntmps74
    go_wp2_with fail
    clear e0 d0
    go_loopw [5, 6] (fun v i wr => ∃ (k : Nat) (m : Int), v = .int .i64 m ∧ i = .int .i64 k ∧ k ≤ s.size ∧ 0 ≤ m ∧ Hid (decV ((numsOf s).drop k) m = some N) ∧ w = wr) (fun _ i _ => s.size - (intOf i).toNat)
    case atStart => exact ⟨0, 0, rfl, rfl, Nat.zero_le _, by omega, HN, rfl⟩
    case round =>
      obtain ⟨k, m, rfl, rfl, hk, hm0, HD, rfl⟩ := hrel
      by_cases hp : k < s.size
      · have ec : ((s[k]'hp).toNat : Int) = byt s k := byt_get hp
        have h1 := HD.out
        rw [nums_dropc s k hp] at h1
        obtain ⟨c0, c9, h2⟩ := decV_cons h1
        have HD2 := hid h2
        have hb := decV_le _ _ _ (by omega) h2
        clear h1 h2
        generalize byt s k = c at ec c0 c9 HD2 hb
        have c9' : ¬ (57 : Int) < c := by omega
        have c0' : ¬ c < 48 := by omega
        go_wp2_with fail
        go_roundw
        case rel => exact ⟨k + 1, 10 * m + (c - 48), by go_num, by go_num, by omega, by omega, HD2, by first | trivial | rfl⟩
        case measure => simp [intOf]; omega
      · obtain rfl : k = s.size := by omega
        have h1 := HD.out
        rw [List.drop_eq_nil_of_le (by rw [numsOf_length]; exact Nat.le_refl _)] at h1
        obtain rfl : m = N := by simpa [decV] using h1
        have hle' : ¬ most < m := by omega
        go_wp2_with fail
        go_ret
        exact ⟨rfl, rfl⟩
  · rw [h48] at e0
    clear h48 hz
    have h1i : ¬ (1 : Int) < s.size := by omega
    go_enter Tryd.func74, Tryd.ntmps74
    go_wp2_with fail
    go_loopw [5, 6] (fun v i wr => ∃ (k : Nat) (m : Int), v = .int .i64 m ∧ i = .int .i64 k ∧ k ≤ s.size ∧ 0 ≤ m ∧ Hid (decV ((numsOf s).drop k) m = some N) ∧ w = wr) (fun _ i _ => s.size - (intOf i).toNat)
    case atStart => exact ⟨0, 0, rfl, rfl, Nat.zero_le _, by omega, HN, rfl⟩
    case round =>
      obtain ⟨k, m, rfl, rfl, hk, hm0, HD, rfl⟩ := hrel
      by_cases hp : k < s.size
      · have ec : ((s[k]'hp).toNat : Int) = byt s k := byt_get hp
        have h1 := HD.out
        rw [nums_dropc s k hp] at h1
        obtain ⟨c0, c9, h2⟩ := decV_cons h1
        have HD2 := hid h2
        have hb := decV_le _ _ _ (by omega) h2
        clear h1 h2
        generalize byt s k = c at ec c0 c9 HD2 hb
        have c9' : ¬ (57 : Int) < c := by omega
        have c0' : ¬ c < 48 := by omega
        go_wp2_with fail
        go_roundw
        case rel => exact ⟨k + 1, 10 * m + (c - 48), by go_num, by go_num, by omega, by omega, HD2, by first | trivial | rfl⟩
        case measure => simp [intOf]; omega
      · obtain rfl : k = s.size := by omega
        have h1 := HD.out
        rw [List.drop_eq_nil_of_le (by rw [numsOf_length]; exact Nat.le_refl _)] at h1
        obtain rfl : m = N := by simpa [decV] using h1
        have hle' : ¬ most < m := by omega
        go_wp2_with fail
        go_ret
        exact ⟨rfl, rfl⟩

theorem hexP_le {l : List Int} {n : Int} (h : hexP l = some n) : 0 ≤ n ∧ n ≤ 65535 := by
  unfold hexP at h
  split at h
  · rename_i hc
    obtain ⟨h1, h2⟩ := hexV_le l 0 n (by omega) h
    refine ⟨h1, ?_⟩
    rcases (show l.length = 1 ∨ l.length = 2 ∨ l.length = 3 ∨ l.length = 4 by omega) with e | e | e | e <;> rw [e] at h2 <;> omega
  · cases h
set_option maxHeartbeats 2000000 in
theorem refHex (s : ByteArray) (n : Int) (h : hexP (numsOf s) = some n) (w : World) : Calls Tryd.prog 105 #[.string s] w fun e w' => e = .returned (.int .i64 n) ∧ w = w' := by
  have hle := hexP_le h
  unfold hexP at h
  split at h
  case isFalse => cases h
  rename_i hc
  rw [numsOf_length] at hc
  obtain ⟨hs1, hs4⟩ := hc
  have hp0 : 0 < s.size := by omega
  have hne : s.toList.isEmpty = false := notEmp hp0
  have hs4i : ¬ (4 : Int) < s.size := by omega
  have HN := hid h
  clear h
  go_enter Tryd.func105, Tryd.ntmps105
  go_wp2_with fail
  go_loopw [3, 4] (fun v i wr => ∃ (k : Nat) (m : Int), v = .int .i64 m ∧ i = .int .i64 k ∧ k ≤ s.size ∧ 0 ≤ m ∧ Hid (hexV ((numsOf s).drop k) m = some n) ∧ w = wr) (fun _ i _ => s.size - (intOf i).toNat)
  case atStart => exact ⟨0, 0, rfl, rfl, Nat.zero_le _, by omega, HN, rfl⟩
  case round =>
    obtain ⟨k, m, rfl, rfl, hk, hm0, HD, rfl⟩ := hrel
    by_cases hp : k < s.size
    · have ec : ((s[k]'hp).toNat : Int) = byt s k := byt_get hp
      have h1 := HD.out
      rw [nums_dropc s k hp] at h1
      rcases hexV_cons h1 with ⟨⟨c0, c1⟩, h2⟩ | ⟨⟨c0, c1⟩, h2⟩ | ⟨⟨c0, c1⟩, h2⟩
      · have HD2 := hid h2
        have hb := (hexV_le _ _ _ (by omega) h2).1
        clear h1 h2
        generalize byt s k = c at ec c0 c1 HD2 hb
        go_wp2_with fail
        go_roundw
        case rel => exact ⟨k + 1, 16 * m + (c - 48), by go_num, by go_num, by omega, by omega, HD2, by first | trivial | rfl⟩
        case measure => simp [intOf]; omega
      · have HD2 := hid h2
        have hb := (hexV_le _ _ _ (by omega) h2).1
        clear h1 h2
        generalize byt s k = c at ec c0 c1 HD2 hb
        have c2 : 48 ≤ c := by omega
        have c3 : ¬ c ≤ 57 := by omega
        go_wp2_with fail
        go_roundw
        case rel => exact ⟨k + 1, 16 * m + (c - 87), by go_num, by go_num, by omega, by omega, HD2, by first | trivial | rfl⟩
        case measure => simp [intOf]; omega
      · have HD2 := hid h2
        have hb := (hexV_le _ _ _ (by omega) h2).1
        clear h1 h2
        generalize byt s k = c at ec c0 c1 HD2 hb
        have c2 : 48 ≤ c := by omega
        have c3 : ¬ c ≤ 57 := by omega
        have c4 : ¬ 97 ≤ c := by omega
        go_wp2_with fail
        go_roundw
        case rel => exact ⟨k + 1, 16 * m + (c - 55), by go_num, by go_num, by omega, by omega, HD2, by first | trivial | rfl⟩
        case measure => simp [intOf]; omega
    · obtain rfl : k = s.size := by omega
      have h1 := HD.out
      rw [List.drop_eq_nil_of_le (by rw [numsOf_length]; exact Nat.le_refl _)] at h1
      obtain rfl : m = n := by simpa [hexV] using h1
      go_wp2_with fail
      go_ret
      exact ⟨rfl, rfl⟩
end Go.Proofs.YtbmbnibamhgfmaaDoor

/- ginnelref07.Split: the pieces between the occurrences of a byte. -/
namespace Go.Proofs.YtbmbnibamhgfmaaDoor
open Go.RowKit

theorem str_info : (Tryd.prog.info? 9).map (fun i => (i.zero, i.size, i.bytes)) = some (some (Value.string ⟨#[]⟩), 1, 16) := by kernel_rfl
set_option maxHeartbeats 2000000 in
theorem refSplit (s : ByteArray) (c : Int) (hs : s.size ≤ 1000000) (w : World) : Calls Tryd.prog 65 #[.string s, .int .u8 c] w fun e w' => ∃ (A : Option Addr) (cp : Nat) (ps : List ByteArray), e = .returned (.slice A ps.length cp) ∧ ps.map numsOf = splitC c (numsOf s) ∧ Own w' w.heap.size 9 1 A ps.length cp (ps.map Value.string) ∧ Ch [] w w' := by
  go_enter Tryd.func65, Tryd.ntmps65
  go_wp2_with fail
  go_loopw [5, 6, 7] (fun a f i wr => ∃ (A : Option Addr) (cp m k n : Nat) (ps : List ByteArray), a = .slice A n cp ∧ f = .int .i64 m ∧ i = .int .i64 k ∧ m ≤ k ∧ k ≤ s.size ∧ ps.length = n ∧ n ≤ k ∧ Own wr w.heap.size 9 1 A n cp (ps.map Value.string) ∧ Hid (ps.map numsOf ++ splitC c ((numsOf s).drop m) = splitC c (numsOf s)) ∧ Hid (∀ j, m ≤ j → j < k → at_ (numsOf s) j ≠ c) ∧ Ch [] w wr) (fun _ _ i _ => s.size - (intOf i).toNat)
  case atStart => exact ⟨none, 0, 0, 0, 0, [], rfl, rfl, rfl, Nat.le_refl _, Nat.zero_le _, rfl, Nat.le_refl _, Own.nil _ _ _ _, by show _ = _; simp, by show ∀ _, _; intro j _ h; omega, Ch.refl _ _⟩
  case round =>
    obtain ⟨A, cp, m, k, n, ps, rfl, rfl, rfl, hmk, hk, hn, hnk, own, HS, HN, CC⟩ := hrel
    by_cases hp : k < s.size
    · have e0 : ((s[k]'hp).toNat : Int) = byt s k := byt_get hp
      have hat : byt s k = at_ (numsOf s) k := byt_at hp
      have hle := CC.size
      by_cases hx : byt s k = c
      · rw [hx] at e0
        have HS2 : Hid ((ps ++ [s.extract m k]).map numsOf ++ splitC c ((numsOf s).drop (k + 1)) = splitC c (numsOf s)) := by
          show _ = _
          rw [← HS.out, splitC_step c (numsOf s) m k hmk (by rw [numsOf_length]; exact hp) (by rw [← hat]; exact hx) HN.out, List.map_append, List.append_assoc, List.map_cons, List.map_nil, nums_ext]
          rfl
        clear hx hat
        have b1 : (m : Int) ≤ k := by omega
        have b2 : (k : Int) ≤ s.size := by omega
        go_wp2_with (at_builtin; (refine wpList_app _ rfl (.tmp 19) (.tmp 24) _ rfl w.heap.size 9 _ 1 16 Tryd.underlying115 str_info rfl (by omega) _ _ _ _ rfl (own.alloc _) _ _ _ _ [.string (s.extract m k)] rfl (Rd.new _ 1 [.string (s.extract m k)] 1 rfl _) (by simp [Value.oneCell']) (by unfold maxLen; omega) (by omega) (by simp only [World.size_alloc]; omega) ?_; intro A3 c3 w3 own3 ch3 at3))
        go_roundw
        case rel =>
          refine ⟨A3, c3, k + 1, k + 1, n + 1, ps ++ [s.extract m k], rfl, by go_num, by go_num, by omega, by omega, by simp [hn], by omega, ?_, HS2, by show ∀ _, _; intro j _ h; omega, (CC.alloc _).step ch3 (fun g' hg' => .inr (own.blks g' hg').1)⟩
          simpa [List.map_append] using own3
        case measure => simp only [intOf]; omega
      · have HN2 : Hid (∀ j, m ≤ j → j < k + 1 → at_ (numsOf s) j ≠ c) := by
          show ∀ _, _
          intro j h1 h2
          by_cases h3 : j = k
          · subst h3; rw [← hat]; exact hx
          · exact HN.out j h1 (by omega)
        have d0 : (byt s k == c) = false := by simpa using hx
        clear hx hat
        go_wp2_with fail
        go_roundw
        case rel => exact ⟨A, cp, m, k + 1, n, ps, rfl, rfl, by go_num, by omega, by omega, hn, by omega, own, HS, HN2, CC⟩
        case measure => simp only [intOf]; omega
    · obtain rfl : k = s.size := by omega
      have HS2 : Hid ((ps ++ [s.extract m s.size]).map numsOf = splitC c (numsOf s)) := by
        show _ = _
        rw [← HS.out, splitC_last c (numsOf s) m (fun j h1 h2 => HN.out j h1 (by rw [numsOf_length] at h2; exact h2)), List.map_append, List.map_cons, List.map_nil, nums_tail]
      have hle := CC.size
      have b1 : (m : Int) ≤ s.size := by omega
      go_wp2_with (at_builtin; (refine wpList_app _ rfl (.tmp 28) (.tmp 32) _ rfl w.heap.size 9 _ 1 16 Tryd.underlying115 str_info rfl (by omega) _ _ _ _ rfl (own.alloc _) _ _ _ _ [.string (s.extract m s.size)] rfl (Rd.new _ 1 [.string (s.extract m s.size)] 1 rfl _) (by simp [Value.oneCell']) (by unfold maxLen; omega) (by omega) (by simp only [World.size_alloc]; omega) ?_; intro A3 c3 w3 own3 ch3 at3))
      go_ret
      refine ⟨A3, c3, ps ++ [s.extract m s.size], by simp [hn], HS2.out, ?_, (CC.alloc _).step ch3 (fun g' hg' => .inr (own.blks g' hg').1)⟩
      have : (ps ++ [s.extract m s.size]).length = n + 1 := by simp [hn]
      rw [this]
      simpa [List.map_append] using own3
end Go.Proofs.YtbmbnibamhgfmaaDoor

/- ginnelref07.parseIPv4: where it succeeds, and where there are not four parts. -/
namespace Go.Proofs.YtbmbnibamhgfmaaDoor
open Go.RowKit

section
variable {P : Program} {w : World} {g : Nat} {t : TypeId} {cs : List Value}
theorem results_rowF2 {fn : Func} {p u : Tmp} {ty : TypeId} (h : fn.results = #[.cell p ty, .tmp u]) (tmps : Array Value) (d : TypeDesc)
    (hp : tmps.getD p undef = .pointer (some ⟨g, 0, none⟩)) (hg : Blk w g t cs) (hu : P.underlying ty = some d) (hd : (match d with | .struct _ | .array _ _ => true | _ => false) = true) (hi : (P.info? ty).map (·.size) = some cs.length) :
    (results fn tmps).run P w = .ok (.tuple #[.agg cs.toArray, tmps.getD u undef]) w := by
  have hp' : tmps[p]?.getD undef = .pointer (some ⟨g, 0, none⟩) := by simpa using hp
  simp [results, h, hp', asAddr, Result.andThen, run_loadVar_row w g t ty cs.toArray (0, 0) d hg hu hd (by simpa using hi)]
end
theorem own_str {w : World} {B n cp k : Nat} {A : Option Addr} {e : TypeId} {ps : List ByteArray} {g : Nat} {x : ByteArray} (h : Own w B e 1 A n cp (ps.map Value.string)) (hA : A = some ⟨g, 0, none⟩) (hx : ps[k]? = some x) : w.cell? ⟨g, k, none⟩ = some (.string x) := by
  subst hA
  have hlt : k < n := by
    have h1 := h.len
    have h2 := (List.getElem?_eq_some_iff.1 hx).1
    rw [List.length_map] at h1
    omega
  obtain ⟨b, off, e1, _, hc⟩ := h.rd.2 (by omega)
  simp only [Option.some.injEq, Addr.mk.injEq] at e1
  obtain ⟨rfl, rfl, _⟩ := e1
  have := hc k (.string x) (by rw [List.getElem?_map, hx]; rfl)
  rwa [Nat.zero_add] at this
theorem allO_spec {α β : Type} (f : α → Option β) : ∀ (l : List α) (r : List β), allO f l = some r → r.length = l.length ∧ ∀ (i : Nat) (x : α), l[i]? = some x → ∃ y, f x = some y ∧ r[i]? = some y
  | [], r, h => by simp [allO] at h; subst h; exact ⟨rfl, fun i x hx => by simp at hx⟩
  | a :: l, r, h => by
    unfold allO at h
    split at h
    · rename_i y r' hy hr
      obtain rfl := Option.some.inj h
      obtain ⟨h1, h2⟩ := allO_spec f l r' hr
      refine ⟨by simp [h1], fun i x hx => ?_⟩
      cases i with
      | zero => simp at hx; subst hx; exact ⟨y, hy, rfl⟩
      | succ i => simp at hx; simpa using h2 i x hx
    · cases h
theorem decP_le {l : List Int} {m n : Int} (h : decP l m = some n) : 0 ≤ n ∧ n ≤ m := by
  unfold decP at h
  split at h
  case isFalse => cases h
  split at h
  case h_2 => cases h
  rename_i N hN
  split at h
  case isFalse => cases h
  obtain rfl := Option.some.inj h
  exact ⟨decV_le _ _ _ (by omega) hN, by assumption⟩

set_option maxRecDepth 20000 in
set_option maxHeartbeats 4000000 in
theorem refIp4No (s : ByteArray) (hs : s.size ≤ 1000000) (h : (splitC 46 (numsOf s)).length ≠ 4) (w : World) : Calls Tryd.prog 89 #[.string s] w fun e w' => e = .returned (.tuple #[.agg (addrC false zeros).toArray, .bool false]) ∧ Ch [] w w' := by
  have HSP := hid (refSplit s 46 hs)
  have HI := hid (addr_inf (six := false) (bs := zeros) rfl)
  go_enter Tryd.func89, Tryd.ntmps89
  go_wp2_with (first
    | (refine wpList_loadB rfl 57 _ rfl w1.heap.size 57 (addrC false zeros) _ rfl B2 Tryd.underlying57 rfl HI.out ?_)
    | (refine wpList_storeB rfl 57 _ _ rfl w.heap.size 57 (addrC false zeros) (addrC false zeros) rfl rfl B1' HI.out rfl (addr_one' _ _) ?_; intro w4 B4 C4 Z4)
    | (refine wpList_storeB rfl 57 _ _ rfl w1.heap.size 57 (addrC false zeros) (addrC false zeros) rfl rfl (Blk.new _ _ _) HI.out rfl (addr_one' _ _) ?_; intro w2 B2 C2 Z2; have CC := (CA.alloc _).step C2 (fun i hi => .inr (by simp at hi; omega)); have B1' := (B1.alloc _).ch C2 (by simp; omega))
    | (go_at_call 65; (with_reducible refine (HSP.out _).mono ?_); rintro e w1 ⟨A, cp, ps, rfl, hps, own, C1⟩; have hl4 : (ps.length : Int) ≠ 4 := (by have h9 := congrArg List.length hps; rw [List.length_map] at h9; omega); have hl5 : ((ps.length : Int) == 4) = false := (by simpa using hl4); have hl6 : ((ps.length : Int) != 4) = true := (by simpa using hl4); have B1 := (Blk.new w 57 (addrC false zeros)).ch C1 (by simp); have lt1 := B1.lt; have CA := ((Ch.refl [] w).alloc _).trans C1; clear hl4))
  try simp only [Exit.inBlock, Exit.then]
  refine bodyPost_ret (results_rowF2 rfl _ _ rfl B4 Tryd.underlying57 rfl HI.out) rfl ?_
  exact ⟨rfl, CC.step C4 (fun i hi => .inr (by simp at hi; omega))⟩

theorem ip4_spec {l bs : List Int} (h : ip4P l = some bs) : (splitC 46 l).length = 4 ∧ bs.length = 4 ∧ ∀ (i : Nat) (x : List Int), (splitC 46 l)[i]? = some x → decP x 255 = some (at_ bs i) := by
  unfold ip4P at h
  split at h
  case isFalse => cases h
  rename_i h4
  obtain ⟨h1, h2⟩ := allO_spec _ _ _ h
  refine ⟨h4, by omega, fun i x hx => ?_⟩
  obtain ⟨y, hy, hr⟩ := h2 i x hx
  rw [hy]
  simp [at_, List.getD, hr]
theorem z12_fill (bs : List Int) (h : bs.length = 4) : (bs ++ z12).take 4 ++ zeros.drop 4 = bs ++ z12 := by
  rw [List.take_append_of_le_length (by omega), List.take_of_length_le (by omega)]; rfl
set_option maxRecDepth 20000 in
set_option maxHeartbeats 4000000 in
theorem refIp4 (s : ByteArray) (bs : List Int) (hs : s.size ≤ 1000000) (h : ip4P (numsOf s) = some bs) (w : World) : Calls Tryd.prog 89 #[.string s] w fun e w' => e = .returned (.tuple #[.agg (addrC false (bs ++ z12)).toArray, .bool true]) ∧ Ch [] w w' := by
  have HSP := hid (refSplit s 46 hs)
  have HI := hid (addr_inf (six := false) (bs := zeros) rfl)
  obtain ⟨h4, hb4, hsp⟩ := ip4_spec h
  have HSC := hid hsp
  have hl16 : (bs ++ z12).length = 16 := by rw [List.length_append, hb4]; rfl
  have HI2 := hid (addr_inf (six := false) (bs := bs ++ z12) hl16)
  have HFS := hid (fun k (hk : k < 16) => fill_set (bs ++ z12) zeros k (by omega) (by show k < 16; omega))
  have HAT : Hid (∀ k, k < 4 → at_ (bs ++ z12) k = at_ bs k) := fun k hk => by simp [at_, List.getD, List.getElem?_append, hb4, hk]
  have HZF := hid (z12_fill bs hb4)
  clear hsp h
  go_enter Tryd.func89, Tryd.ntmps89
  go_wp2_with (first
    | (refine wpList_storeB rfl 57 _ _ rfl w1.heap.size 57 (addrC false zeros) (addrC false zeros) rfl rfl (Blk.new _ _ _) HI.out rfl (addr_one' _ _) ?_; intro w2 B2 C2 Z2; have CC := (CA.alloc _).step C2 (fun i hi => .inr (by simp at hi; omega)); have B1' := (B1.alloc _).ch C2 (by simp; omega); have own2 := (own.alloc _).ch C2 (by intro q hq; have := (own.blks q hq).2; simp; omega))
    | (go_at_call 65; (with_reducible refine (HSP.out _).mono ?_); rintro e w1 ⟨A, cp, ps, rfl, hps, own, C1⟩; have hl4 : ps.length = 4 := (by have h9 := congrArg List.length hps; rw [List.length_map] at h9; omega); have B1 := (Blk.new w 57 (addrC false zeros)).ch C1 (by simp); have lt1 := B1.lt; have CA := ((Ch.refl [] w).alloc _).trans C1; have HPS := hid hps; clear hps))
  obtain ⟨q, rfl, hqw, hql⟩ := own2.form (by omega)
  have hqh : q < w1.heap.size := (own.blks q (by simp [blkOf])).2
  obtain ⟨g, hg⟩ : ∃ g, w1.heap.size = g := ⟨_, rfl⟩
  rw [hg] at B2 hqh ⊢
  have hgw := CA.size
  have hz16 : (addrC false zeros) = addrC false ((bs ++ z12).take 0 ++ zeros.drop 0) := by simp
  rw [hz16] at B2
  clear hz16
  rw [hl4] at own2
  go_loopw [6] (fun i wr => ∃ k : Nat, k ≤ 4 ∧ i = .int .i64 k ∧ Blk wr w.heap.size 57 (addrC false zeros) ∧ Blk wr g 57 (addrC false ((bs ++ z12).take k ++ zeros.drop k)) ∧ Own wr (w.heap.size + 1) 9 1 (some ⟨q, 0, none⟩) 4 cp (ps.map Value.string) ∧ Ch [] w wr) (fun i _ => 4 - (intOf i).toNat)
  case atStart => exact ⟨0, by omega, rfl, B1', B2, by simpa using own2, CC⟩
  case round =>
    clear own own2 B1 B1' B2 CA CC C1 C2
    obtain ⟨k, hk, rfl, B1, B2, own, CC⟩ := hrel
    have lt1 := B1.lt
    have lt2 := B2.lt
    by_cases hlt : k < 4
    · obtain ⟨x, hx⟩ : ∃ x, ps[k]? = some x := ⟨_, List.getElem?_eq_getElem (by omega)⟩
      have hc := own_str own rfl hx
      have hdx := HSC.out k (numsOf x) (by rw [← HPS.out, List.getElem?_map, hx]; rfl)
      have HD := hid (refDec x 255 _ hdx (by omega))
      have hrng := decP_le hdx
      have hfs := HFS.out k (by omega)
      rw [HAT.out k hlt] at hfs
      have F := B2.frozen (1 + k)
      have hc2 : ∃ u, wr.cell? ⟨g, 1 + k, none⟩ = some (.int .u8 u) := ⟨_, (B2.cell (1 + k)).trans (addrC_byte (by rw [List.length_append, List.length_take, List.length_drop, hl16]; show k < min k 16 + (16 - k); omega))⟩
      obtain ⟨u, hc2⟩ := hc2
      have HSET : Hid (Blk (wr.setCell ⟨g, 1 + k, none⟩ (.int .u8 (at_ bs k))) g 57 (addrC false ((bs ++ z12).take (k + 1) ++ zeros.drop (k + 1)))) := by
        show Blk _ _ _ _
        rw [← hfs, ← addr_set]
        exact B2.set _ _
      clear hx hdx hfs
      generalize at_ bs k = b at HD hrng HSET
      obtain ⟨b0, b255⟩ := hrng
      go_wp2_with (go_at_call 74; (with_reducible refine (HD.out _).mono ?_); rintro e w3 ⟨rfl, rfl⟩)
      go_roundw
      case rel => exact ⟨k + 1, by omega, by go_num, B1.far (p := ⟨g, 1 + k, none⟩) (by show w.heap.size ≠ g; omega) _, HSET.out, own.ch ((Ch.refl [g] wr).setCell (p := ⟨g, 1 + k, none⟩) (.inl (by simp)) _) (by intro q' hq'; simp [blkOf] at hq'; subst hq'; simp; omega), CC.setCell (p := ⟨g, 1 + k, none⟩) (.inr (by show _ ≤ g; omega)) _⟩
      case measure => simp [intOf]; omega
    · obtain rfl : k = 4 := by omega
      rw [HZF.out] at B2
      go_wp2_with (first
        | (refine wpList_loadB rfl 57 _ rfl g 57 (addrC false (bs ++ z12)) _ rfl B2 Tryd.underlying57 rfl HI2.out ?_)
        | (refine wpList_storeB rfl 57 _ _ rfl w.heap.size 57 (addrC false zeros) (addrC false (bs ++ z12)) rfl rfl B1 HI2.out ((addr_len (six := false) (bs := zeros) rfl).trans (addr_len hl16).symm) (addr_one' _ _) ?_; intro w5 B5 C5 Z5))
      try simp only [Exit.inBlock, Exit.then]
      refine bodyPost_ret (results_rowF2 rfl _ _ rfl B5 Tryd.underlying57 rfl HI2.out) rfl ?_
      exact ⟨rfl, CC.step C5 (fun i hi => .inr (by simp at hi; omega))⟩
end Go.Proofs.YtbmbnibamhgfmaaDoor

/- ginnelref07.parseGroups where no part is an IPv4 address and each is a group; V6. -/
namespace Go.Proofs.YtbmbnibamhgfmaaDoor
open Go.RowKit

theorem u16_info : (Tryd.prog.info? 147).map (fun i => (i.zero, i.size, i.bytes)) = some (some (.int .u16 0), 1, 2) := by kernel_rfl
theorem splitC_mem (c : Int) : ∀ (l : List Int) (p : List Int), p ∈ splitC c l → ∀ y ∈ p, y ∈ l
  | [], p, h, y, hy => by simp [splitC] at h; subst h; cases hy
  | x :: l, p, h, y, hy => by
    unfold splitC at h
    have ih := splitC_mem c l
    split at h
    · rcases List.mem_cons.1 h with rfl | h
      · cases hy
      · exact List.mem_cons_of_mem _ (ih p h y hy)
    · split at h
      · rename_i z r hz
        rw [hz] at ih
        rcases List.mem_cons.1 h with rfl | h
        · rcases List.mem_cons.1 hy with rfl | hy
          · simp
          · exact List.mem_cons_of_mem _ (ih z (by simp) y hy)
        · exact List.mem_cons_of_mem _ (ih p (by simp [h]) y hy)
      · simp at h; subst h; simp at hy; subst hy; simp
theorem grp_spec {l gs : List Int} (h : grpP l = some gs) (h0 : l.length ≠ 0) : gs.length = (splitC 58 l).length ∧ ∀ (i : Nat) (x : List Int), (splitC 58 l)[i]? = some x → hexP x = some (at_ gs i) ∧ (splitC 46 x).length ≠ 4 := by
  unfold grpP at h
  split at h
  case isFalse => cases h
  rename_i hd
  obtain ⟨h1, h2⟩ := allO_spec _ _ _ h
  refine ⟨h1, fun i x hx => ?_⟩
  obtain ⟨y, hy, hr⟩ := h2 i x hx
  refine ⟨by rw [hy]; simp [at_, List.getD, hr], ?_⟩
  rw [splitC_free 46 x]
  · simp
  · intro z hz
    have := List.all_eq_true.1 hd z (splitC_mem 58 l x (List.mem_of_getElem? hx) z hz)
    simpa using this
theorem grp_nil {l gs : List Int} (h : grpP l = some gs) (h0 : l.length = 0) : gs = [] := by
  unfold grpP at h
  split at h
  case isFalse => cases h
  exact (Option.some.inj h).symm

set_option maxRecDepth 20000 in
set_option maxHeartbeats 4000000 in
theorem refGrps (s : ByteArray) (last : Bool) (gs : List Int) (hs : s.size ≤ 1000000) (h : grpP (numsOf s) = some gs) (w : World) : Calls Tryd.prog 90 #[.string s, .bool last] w fun e w' =>
    ∃ (A : Option Addr) (cp : Nat), e = .returned (.tuple #[.slice A gs.length cp, .bool true]) ∧ Own w' w.heap.size 147 1 A gs.length cp (gs.map (Value.int .u16)) ∧ Ch [] w w' := by
  by_cases h0 : s.size = 0
  · obtain rfl := grp_nil h (by rw [numsOf_length]; exact h0)
    clear h
    obtain rfl : s = ⟨#[]⟩ := str_ext (List.eq_nil_of_length_eq_zero (by rw [Array.length_toList]; exact h0))
    clear h0
    go_enter Tryd.func90, Tryd.ntmps90
    go_wp2_with fail
    go_ret2
    exact ⟨none, 0, rfl, Own.nil _ _ _ _, Ch.refl _ _⟩
  have hne : s.toList.isEmpty = false := notEmp (by omega)
  obtain ⟨hgl, hsp⟩ := grp_spec h (by rw [numsOf_length]; exact h0)
  have HSC := hid hsp
  have HSP := hid (refSplit s 58 hs)
  have HI := hid (addr_inf (six := false) (bs := zeros) rfl)
  have HZ := hid (splitC_size 58 (numsOf s))
  have HLL := hid (splitC_len 58 (numsOf s))
  clear h hsp
  go_enter Tryd.func90, Tryd.ntmps90
  go_wp2_with (go_at_call 65; (with_reducible refine (HSP.out _).mono ?_); rintro e w1 ⟨A, cp, ps, rfl, hps, own, C1⟩)
  have HPL : Hid (ps.length = gs.length) := by show _ = _; rw [hgl, ← hps, List.length_map]
  have hpl1 : ps.length ≤ gs.length := by rw [HPL.out]; exact Nat.le_refl _
  have hpl2 : gs.length ≤ ps.length := by rw [HPL.out]; exact Nat.le_refl _
  have hpm : ps.length ≤ 1000001 := by
    have h5 := HLL.out
    rw [← hps, List.length_map, numsOf_length] at h5
    omega
  have HPS := hid hps
  have HPZ : Hid (∀ x ∈ ps, x.size ≤ 1000000) := fun x hx => by
    have := HZ.out (numsOf x) (by rw [← hps]; exact List.mem_map.2 ⟨x, hx, rfl⟩)
    rw [numsOf_length, numsOf_length] at this
    omega
  have hp1 : 1 ≤ ps.length := by
    rcases Nat.eq_zero_or_pos ps.length with h9 | h9
    · exfalso
      apply splitC_ne 58 (numsOf s)
      rw [← hps, List.length_eq_zero_iff.1 h9]; rfl
    · exact h9
  clear hps hgl
  obtain ⟨q, rfl, hqw, hql⟩ := own.form (by omega)
  go_loopw [6, 8] (fun o i wr => ∃ (k : Nat) (A : Option Addr) (c : Nat), o = .slice A k c ∧ i = .int .i64 k ∧ k ≤ ps.length ∧ Own wr w.heap.size 147 1 A k c ((gs.take k).map (Value.int .u16)) ∧ Own wr w.heap.size 9 1 (some ⟨q, 0, none⟩) ps.length cp (ps.map Value.string) ∧ (∀ b ∈ blkOf A, b ≠ q) ∧ Ch [] w wr) (fun _ i _ => ps.length - (intOf i).toNat)
  case atStart => exact ⟨0, none, 0, rfl, rfl, Nat.zero_le _, Own.nil _ _ _ _, own, fun b hb => by simp [blkOf] at hb, C1⟩
  case round =>
    clear own C1
    obtain ⟨k, A, c, rfl, rfl, hk, ownO, own, hap, CC⟩ := hrel
    have hgw := CC.size
    by_cases hlt : k < ps.length
    · obtain ⟨x, hx⟩ : ∃ x, ps[k]? = some x := ⟨_, List.getElem?_eq_getElem hlt⟩
      have hc := own_str own rfl hx
      obtain ⟨hhx, h46⟩ := HSC.out k (numsOf x) (by rw [← HPS.out, List.getElem?_map, hx]; rfl)
      have hxz := HPZ.out x (List.mem_of_getElem? hx)
      have H4 := hid (refIp4No x hxz h46)
      have HH := hid (refHex x _ hhx)
      have hrng := hexP_le hhx
      have HX := hid hx
      have HTK : Hid ((gs.take (k + 1)).map (Value.int .u16) = (gs.take k).map (Value.int .u16) ++ [.int .u16 (at_ gs k)]) := by
        show _ = _
        rw [List.take_succ_eq_append_getElem (by omega), List.map_append]
        simp [at_, List.getD, show k < gs.length from by omega]
      clear hx hhx h46
      generalize at_ gs k = v at HH hrng HTK
      obtain ⟨v0, v1⟩ := hrng
      have hv16 : IntKind.u16.wrap v = v := by simp [IntKind.wrap, IntKind.bits, IntKind.signed]; omega
      go_wp2_with (first
        | (at_builtin; (refine wpList_app _ rfl (.tmp 71) (.tmp 74) _ rfl w.heap.size 147 _ 1 2 Tryd.underlying143 u16_info rfl (by omega) _ _ _ _ rfl (ownO3.alloc _) _ _ _ _ [.int .u16 v] rfl (Rd.new _ 1 [.int .u16 v] 1 rfl _) (by simp [Value.oneCell']) (by unfold maxLen; omega) (by omega) (by simp only [World.size_alloc]; omega) ?_; intro A4 c4 w4 own4 ch4 at4))
        | (refine wpList_storeB rfl 57 _ _ rfl w2.heap.size 57 (addrC false zeros) (addrC false zeros) rfl rfl (Blk.new _ _ _) HI.out rfl (addr_one' _ _) ?_; intro w3 B3 C3 Z3; have CA3 := (CA.alloc _).step C3 (fun i hi => .inr (by simp at hi; omega)); have C23 := ((Ch.refl [] w2).alloc _).step C3 (fun i hi => .inr (by simp at hi; omega)); have own3 := own2.ch C23 (by simp); have ownO3 := ownO2.ch C23 (by simp); have hc3 := own_str own3 rfl HX.out; have z3 := CA3.size; clear Z3)
        | (go_at_call 89; (with_reducible refine (H4.out _).mono ?_); rintro e w2 ⟨rfl, C2⟩; have own2 := own.ch C2 (by simp); have ownO2 := ownO.ch C2 (by simp); have CA := CC.trans C2; have z2 := CA.size)
        | (go_at_call 105; (with_reducible refine (HH.out _).mono ?_); rintro e w5 ⟨rfl, rfl⟩))
      go_roundw
      case rel =>
        have hq3 : q < w3.heap.size := (own3.blks q (by simp [blkOf])).2
        refine ⟨k + 1, A4, c4, rfl, by go_num, by omega, by rw [HTK.out]; exact own4, (own3.alloc _).ch ch4 (by intro q' hq'; simp [blkOf] at hq'; subst hq'; intro hm; exact hap _ hm rfl), ?_, (CA3.alloc _).step ch4 (fun g' hg' => .inr (ownO.blks g' hg').1)⟩
        intro b hb hbq
        rcases at4 b hb with h1 | h1
        · exact hap b h1 hbq
        · simp only [World.size_alloc] at h1; omega
      case measure => simp only [intOf]; omega
    · obtain rfl : k = ps.length := by omega
      rw [List.take_of_length_le (by omega)] at ownO
      go_wp2_with fail
      go_ret2
      rw [← HPL.out]
      exact ⟨A, c, rfl, ownO, CC⟩
end Go.Proofs.YtbmbnibamhgfmaaDoor

/- ginnelref07.V6: eight groups. -/
namespace Go.Proofs.YtbmbnibamhgfmaaDoor
open Go.RowKit

theorem grpB_len : ∀ gs : List Int, (grpB gs).length = 2 * gs.length
  | [] => rfl
  | g :: gs => by show ([g / 256, g % 256] ++ grpB gs).length = _; rw [List.length_append, grpB_len gs]; simp; omega
theorem grpB_at : ∀ (gs : List Int) (k : Nat), k < gs.length → at_ (grpB gs) (2 * k) = at_ gs k / 256 ∧ at_ (grpB gs) (2 * k + 1) = at_ gs k % 256
  | [], k, h => by cases h
  | g :: gs, 0, _ => ⟨rfl, rfl⟩
  | g :: gs, k + 1, h => by
    obtain ⟨h1, h2⟩ := grpB_at gs k (by simpa using h)
    have e : grpB (g :: gs) = g / 256 :: g % 256 :: grpB gs := rfl
    rw [e, show 2 * (k + 1) = 2 * k + 1 + 1 by omega]
    exact ⟨h1, h2⟩
theorem grpB_good {gs : List Int} (hl : gs.length = 8) (hb : ∀ x ∈ gs, 0 ≤ x ∧ x ≤ 65535) : GoodA (grpB gs) := by
  refine ⟨by rw [grpB_len, hl], fun x hx => ?_⟩
  obtain ⟨g, hg, hxg⟩ := List.mem_flatMap.1 hx
  have := hb g hg
  simp at hxg
  omega
set_option maxRecDepth 20000 in
set_option maxHeartbeats 4000000 in
theorem refV6 (A : Option Addr) (cp : Nat) (gs : List Int) (w : World) (hr : RdI .u16 w w.heap.size A 8 gs) (hl : gs.length = 8) (hb : ∀ x ∈ gs, 0 ≤ x ∧ x ≤ 65535) :
    Calls Tryd.prog 91 #[.slice A 8 cp] w fun e w' => e = .returned (.tuple #[.agg (addrC true (grpB gs)).toArray, .bool true]) ∧ Ch [] w w' := by
  have HI := hid (addr_inf (six := true) (bs := zeros) rfl)
  have hl16 : (grpB gs).length = 16 := by rw [grpB_len, hl]
  have HI2 := hid (addr_inf (six := true) (bs := grpB gs) hl16)
  have HFS := hid (fun k (hk : k < 16) => fill_set (grpB gs) zeros k (by omega) (by show k < 16; omega))
  have HGA := hid (fun k (hk : k < 8) => grpB_at gs k (by omega))
  have HBB := hid (fun k (hk : k < 8) => hb (at_ gs k) (by simp [at_, List.getD, hl, hk]))
  obtain ⟨q, off, rfl, hqw, hcell⟩ := hr.2 (by omega)
  have HCE := hid hcell
  have HLE : Hid (∀ k, k ≤ 16 → ((grpB gs).take k ++ zeros.drop k).length = 16) := fun k hk => by rw [List.length_append, List.length_take, List.length_drop, hl16]; show min k 16 + (16 - k) = 16; omega
  clear hcell hr hb
  go_enter Tryd.func91, Tryd.ntmps91
  have hB1 : Blk (w.alloc (.cells (addrC false zeros).toArray 57)) w.heap.size 57 (addrC false zeros) := Blk.new _ _ _
  go_wp2_with (refine wpList_storeB rfl 57 _ _ rfl (w.heap.size + 1) 57 (addrC false zeros) (addrC true zeros) rfl rfl (Blk.newAt _ _ _ (by simp)) HI.out rfl (addr_one' _ _) ?_; intro w2 B2 C2 Z2; have B1 := (hB1.alloc _).ch C2 (by simp); have CC := (((Ch.refl [] w).alloc _).alloc _).step C2 (fun i hi => .inr (by simp at hi; omega)))
  clear Z2
  have hz16 : (addrC true zeros) = addrC true ((grpB gs).take (2 * 0) ++ zeros.drop (2 * 0)) := by simp
  rw [hz16] at B2
  clear hz16
  go_loopw [5] (fun i wr => ∃ k : Nat, k ≤ 8 ∧ i = .int .i64 k ∧ Blk wr w.heap.size 57 (addrC false zeros) ∧ Blk wr (w.heap.size + 1) 57 (addrC true ((grpB gs).take (2 * k) ++ zeros.drop (2 * k))) ∧ Ch [] w wr) (fun i _ => 8 - (intOf i).toNat)
  case atStart => exact ⟨0, by omega, rfl, B1, B2, CC⟩
  case round =>
    clear B1 B2 CC C2 hB1
    obtain ⟨k, hk, rfl, B1, B2, CC⟩ := hrel
    have lt2 := B2.lt
    by_cases hlt : k < 8
    · obtain ⟨x0, x1⟩ := HBB.out k hlt
      obtain ⟨g0, g1⟩ := HGA.out k hlt
      have hf0 := HFS.out (2 * k) (by omega)
      have hf1 := HFS.out (2 * k + 1) (by omega)
      rw [g0] at hf0
      rw [g1] at hf1
      have hcx : wr.cell? ⟨q, off + k, none⟩ = some (.int .u16 (at_ gs k)) := (CC.cell (p := ⟨q, off + k, none⟩) hqw (by simp)).trans (HCE.out k hlt)
      have HS0 : Hid (∀ m v, v = at_ gs k / 256 → Blk ((wr.drewN m).setCell ⟨w.heap.size + 1, 1 + 2 * k, none⟩ (.int .u8 v)) (w.heap.size + 1) 57 (addrC true ((grpB gs).take (2 * k + 1) ++ zeros.drop (2 * k + 1)))) := by
        rintro m _ rfl
        rw [← hf0, ← addr_set]
        exact (B2.drewN m).set _ _
      have hcx2 : ∀ w', Ch [] w w' → w'.cell? ⟨q, off + k, none⟩ = some (.int .u16 (at_ gs k)) := fun w' h => (h.cell (p := ⟨q, off + k, none⟩) hqw (by simp)).trans (HCE.out k hlt)
      have HCX := hid hcx2
      clear hf0 g0 g1 hcx2
      generalize at_ gs k = x at hcx x0 x1 hf1 HS0 HCX
      have F0 : ∀ m, (wr.drewN m).frozen? ⟨w.heap.size + 1, 1 + 2 * k, none⟩ = false := fun m => (B2.drewN m).frozen _
      have hc0 : ∃ u, wr.cell? ⟨w.heap.size + 1, 1 + 2 * k, none⟩ = some (.int .u8 u) := ⟨_, (B2.cell (1 + 2 * k)).trans (addrC_byte (by rw [HLE.out (2 * k) (by omega)]; omega))⟩
      obtain ⟨u0, hc0⟩ := hc0
      have hF0 := B2.frozen (1 + 2 * k)
      go_wp2_with fail
      refine wp_region_stagesM [⟨0, 32, 32768⟩, ⟨1, 32768, 65536⟩, ⟨0, 32, 131072⟩, ⟨4, 131072, 262144⟩, ⟨8, 262144, 524288⟩, ⟨0, 1, 1048576⟩, ⟨0, 32, 2097152⟩, ⟨96, 3145728, 4194304⟩, ⟨128, 4194304, 8388608⟩, ⟨256, 8388608, 16777216⟩, ⟨512, 16777216, 33554432⟩, ⟨0, 1, 67108864⟩, ⟨0, 32, 134217728⟩, ⟨6144, 201326592, 268435456⟩, ⟨8192, 268435456, 536870912⟩, ⟨16384, 536870912, 1073741824⟩, ⟨0, 16, 2147483648⟩, ⟨67555, 2147549184, 4294967296⟩, ⟨133091, 4328521728, 0⟩, ⟨0, 16, 8589934592⟩, ⟨1048575, 8590458880, 17179869184⟩, ⟨1572863, 18253611008, 0⟩] [([0, 1, 2, 3, 4, 5, 6, 7, 8, 9, 10, 11, 12, 13, 14, 15, 16, 17, 19], 18, [2, 3, 4, 11, 12, 13, 14, 15, 19]), ([20], 21, [])] [] (by kernel_rfl) (by kernel_rfl) ?_
      refine wpStages_step ?_
      simp only [pick, List.map_cons, List.map_nil, List.getD_cons_zero, List.getD_cons_succ]
      repeat (go_big_quiet_step (fail))
      refine wpQuiet_nil ?_
      intro n0
      simp only [pick, List.map_cons, List.map_nil, List.getD_cons_zero, List.getD_cons_succ]
      go_wp2_with fail
      have BS2 := HS0.out n0 (x / 256) rfl
      have BS1 : Blk ((wr.drewN n0).setCell ⟨w.heap.size + 1, 1 + 2 * k, none⟩ (.int .u8 (x / 256))) w.heap.size 57 (addrC false zeros) := (B1.drewN n0).far (p := ⟨w.heap.size + 1, 1 + 2 * k, none⟩) (by simp) _
      have CS : Ch [] w ((wr.drewN n0).setCell ⟨w.heap.size + 1, 1 + 2 * k, none⟩ (.int .u8 (x / 256))) := (CC.drewN n0).setCell (p := ⟨w.heap.size + 1, 1 + 2 * k, none⟩) (.inr (by simp)) _
      have hcs : ((wr.drewN n0).setCell ⟨w.heap.size + 1, 1 + 2 * k, none⟩ (.int .u8 (x / 256))).cell? ⟨q, off + k, none⟩ = some (.int .u16 x) := HCX.out _ CS
      generalize (wr.drewN n0).setCell ⟨w.heap.size + 1, 1 + 2 * k, none⟩ (.int .u8 (x / 256)) = wS at BS2 BS1 CS hcs ⊢
      clear HS0 F0 hc0 hF0 B1 B2 hcx CC
      have hc1 : ∃ u, wS.cell? ⟨w.heap.size + 1, 1 + (2 * k + 1), none⟩ = some (.int .u8 u) := ⟨_, (BS2.cell (1 + (2 * k + 1))).trans (addrC_byte (by rw [HLE.out (2 * k + 1) (by omega)]; omega))⟩
      obtain ⟨u1, hc1⟩ := hc1
      have hF1 := BS2.frozen (1 + (2 * k + 1))
      have HS1 : Hid (∀ m m', Blk (((wS.drewN m).setCell ⟨w.heap.size + 1, 1 + (2 * k + 1), none⟩ (.int .u8 (x % 256))).drewN m') (w.heap.size + 1) 57 (addrC true ((grpB gs).take (2 * (k + 1)) ++ zeros.drop (2 * (k + 1))))) := by
        intro m m'
        rw [show 2 * (k + 1) = 2 * k + 1 + 1 by omega, ← hf1, ← addr_set]
        exact ((BS2.drewN m).set _ _).drewN m'
      have HS1b : Hid (∀ m m', Blk (((wS.drewN m).setCell ⟨w.heap.size + 1, 1 + (2 * k + 1), none⟩ (.int .u8 (x % 256))).drewN m') w.heap.size 57 (addrC false zeros)) := fun m m' => ((BS1.drewN m).far (p := ⟨w.heap.size + 1, 1 + (2 * k + 1), none⟩) (by simp) _).drewN m'
      have HS1c : Hid (∀ m m', Ch [] w (((wS.drewN m).setCell ⟨w.heap.size + 1, 1 + (2 * k + 1), none⟩ (.int .u8 (x % 256))).drewN m')) := fun m m' => ((CS.drewN m).setCell (p := ⟨w.heap.size + 1, 1 + (2 * k + 1), none⟩) (.inr (by simp)) _).drewN m'
      clear hf1 BS2 BS1 CS
      refine stagePost_mk ?_ ?_
      · intro o ho
        simp only [pick, List.map_cons, List.map_nil, List.getD_cons_zero, List.getD_cons_succ, List.mem_cons, List.not_mem_nil, or_false] at ho
        rcases ho with rfl | rfl | rfl | rfl | rfl | rfl | rfl | rfl | rfl
        all_goals
          refine float_any ?_
          repeat (go_big_quiet_step (fail))
          refine wpQuiet_nil ?_
          rfl
      refine wpStages_step ?_
      simp only [pick, List.map_cons, List.map_nil, List.getD_cons_zero, List.getD_cons_succ]
      repeat (go_big_quiet_step (fail))
      refine wpQuiet_nil ?_
      intro n1
      simp only [pick, List.map_cons, List.map_nil, List.getD_cons_zero, List.getD_cons_succ]
      go_wp2_with fail
      refine stagePost_mk ?_ ?_
      · intro o ho; simp [pick] at ho
      refine wpStages_last ?_
      simp only [pick, List.map_nil]
      refine wpQuiet_nil ?_
      intro n2
      go_wp2_with fail
      go_roundw
      case rel => exact ⟨k + 1, by omega, by go_num, HS1b.out _ _, HS1.out _ _, HS1c.out _ _⟩
      case measure => simp [intOf]; omega
    · obtain rfl : k = 8 := by omega
      have hfull : (grpB gs).take (2 * 8) ++ zeros.drop (2 * 8) = grpB gs := by
        rw [List.take_of_length_le (by omega)]; show grpB gs ++ [] = _; rw [List.append_nil]
      rw [hfull] at B2
      go_wp2_with (first
        | (refine wpList_loadB rfl 57 _ rfl (w.heap.size + 1) 57 (addrC true (grpB gs)) _ rfl B2 Tryd.underlying57 rfl HI2.out ?_)
        | (refine wpList_storeB rfl 57 _ _ rfl w.heap.size 57 (addrC false zeros) (addrC true (grpB gs)) rfl rfl B1 HI2.out ((addr_len (six := false) (bs := zeros) rfl).trans (addr_len hl16).symm) (addr_one' _ _) ?_; intro w5 B5 C5 Z5))
      try simp only [Exit.inBlock, Exit.then]
      refine bodyPost_ret (results_rowF2 rfl _ _ rfl B5 Tryd.underlying57 rfl HI2.out) rfl ?_
      exact ⟨rfl, CC.step C5 (fun i hi => .inr (by simp at hi; omega))⟩
end Go.Proofs.YtbmbnibamhgfmaaDoor

/- append of zeros (append(s, make(..)...)) onto a slice that is full; ip.V4, ip.V6, the prefixes and the rows that the tables are made of. -/
namespace Go.Proofs.YtbmbnibamhgfmaaDoor
open Go.RowKit

section
variable {P : Program}
/-- n zeros onto a slice without room: a new one, or the slice itself where nothing is to be added. -/
theorem run_appZ (w : World) (k : IntKind) (t tn ty e : TypeId) (bytes : Nat) (kq kn : IntKind) (ht : P.underlying t = some (.slice e)) (htn : P.underlying tn = some (.int kn)) (hinfo : (P.info? e).map (fun i => (i.zero, i.size, i.bytes)) = some (some (.int k 0), 1, bytes)) (hb : bytes ≤ 8)
    (B : Nat) (A : Option Addr) (n : Nat) (zs : List Int) (h : RdI k w B A n zs) (hB : B ≤ w.heap.size) (m : Nat) (hA : n = 0 → A = none) (hm : n + m ≤ 1000) (v : Int) (hv : v = (m : Int)) :
    ∃ A2 c2 w', (Builtin.append_ #[t, tn] ty #[.slice A n n, .int kq v]).run P w = .ok (.slice A2 (n + m) c2) w' ∧ RdI k w' w'.heap.size A2 (n + m) (zs ++ List.replicate m 0) ∧ Ch [] w w' := by
  subst hv
  obtain ⟨i, hi, hz, hsize, hby⟩ := info_parts hinfo
  have hl := h.1
  rcases Nat.eq_zero_or_pos m with hm0 | hm0
  · subst hm0
    refine ⟨A, n, w, ?_, ?_, Ch.refl _ _⟩
    · cases A with
      | none => simp [Builtin.append_, run_underlying ht, run_underlying htn, sizeOf, typeInfo, hi, asInt, asIntOf, IntKind.wrap_i64]
      | some a => simp [Builtin.append_, run_underlying ht, run_underlying htn, sizeOf, typeInfo, hi, asInt, asIntOf, IntKind.wrap_i64, storeCells]
    · rw [List.replicate_zero, List.append_nil]
      exact Rd.ints (h.rd.more hB)
  · have hnew : ∀ (xs : List Value) (r : Nat), xs = (zs ++ List.replicate m 0).map (Value.int k) → RdI k (w.drew.alloc (.cells (xs.toArray ++ Builtin.zeroCells (Value.int k 0).cells r) e)) (w.drew.alloc (.cells (xs.toArray ++ Builtin.zeroCells (Value.int k 0).cells r) e)).heap.size (some ⟨w.heap.size, 0, none⟩) (n + m) (zs ++ List.replicate m 0) := by
      intro xs r hx
      refine ⟨by simp [hl], fun _ => ⟨_, _, rfl, by simp, fun i hi => ?_⟩⟩
      have hc := World.cell?_alloc_new w.drew (xs.toArray ++ Builtin.zeroCells (Value.int k 0).cells r) e i
      rw [Nat.zero_add]
      refine (show World.cell? _ ⟨w.drew.heap.size, i, none⟩ = _ from hc).trans ?_
      have hxl : xs.length = n + m := by rw [hx]; simp [hl]
      rw [Array.getElem?_append_left (by simpa [hxl] using hi), List.getElem?_toArray, hx, List.getElem?_map]
      have hi2 : i < (zs ++ List.replicate m 0).length := by simp [hl]; exact hi
      rw [List.getElem?_eq_getElem hi2]
      simp only [Option.map_some]
      unfold Go.Proofs.YtbmbnibamhgfmaaDoor.at_ List.getD
      rw [List.getElem?_eq_getElem hi2]
      rfl
    have hCh : ∀ xs : Array Value, Ch [] w (w.drew.alloc (.cells xs e)) := fun xs => ((Ch.refl [] w).drew).alloc _
    have hzr : ∀ r : Nat, Builtin.zeroCells (Value.int k 0).cells r = ((List.replicate r 0).map (Value.int k)).toArray := by
      intro r
      apply Array.ext
      · simp [Builtin.zeroCells, Value.cells]
      · intro i h1 h2
        simp [Builtin.zeroCells, Value.cells, Nat.mod_one]
    have hgr : Builtin.nextslicecap (n + m) n * i.bytes ≤ 281474976710656 :=
      growslice_fits (by omega) (by rw [hby]; exact Nat.le_trans (Nat.mul_le_mul hm hb) (by omega))
    rcases Nat.eq_zero_or_pos n with hn0 | hn0
    · subst hn0
      obtain rfl := hA rfl
      obtain rfl : zs = [] := List.eq_nil_of_length_eq_zero hl
      have hr := Lib.run_append_nil_zeros (P := P) w t tn ty e i (.int k 0) kq kn ht htn hi hz m hm0 (by omega) (by omega) (by rw [hby]; exact Nat.le_trans (Nat.mul_le_mul (show m ≤ 1000 by omega) hb) (by omega))
      refine ⟨_, _, _, by rw [Nat.zero_add]; exact hr, ?_, hCh _⟩
      rw [hzr m]
      have := hnew (([] ++ List.replicate m (0 : Int)).map (Value.int k)) (grownCap w m 0 e - m) rfl
      rw [Nat.zero_add] at this ⊢
      exact this
    · obtain ⟨b, off, rfl, hlt, hc⟩ := h.2 hn0
      have hold : (Builtin.firstCells i.size n (.slice (some ⟨b, off, none⟩) n n)).run P w.drew = .ok ((zs.map (Value.int k)).toArray) w.drew :=
        run_firstCells_some w.drew i.size n ⟨b, off, none⟩ n n (zs.map (Value.int k)) (by rw [List.length_map, hl, hsize, Nat.mul_one]) (fun j v hj => by
          obtain ⟨b2, off2, he, _, hcc⟩ := (h.rd).2 hn0
          simp only [Option.some.injEq, Addr.mk.injEq] at he
          obtain ⟨rfl, rfl, _⟩ := he
          have := hcc j v hj
          rw [Addr.add_lit]
          exact this)
      have hr := Lib.run_append_grow_zeros (P := P) w t tn ty e i (.int k 0) kq kn ht htn hi hz (some ⟨b, off, none⟩) n n (zs.map (Value.int k)) hold m hm0 (by omega) (by omega) (by omega) (by rw [hby]; exact Nat.le_trans (Nat.mul_le_mul (show m ≤ 1000 by omega) hb) (by omega)) hgr
      refine ⟨_, _, _, hr, ?_, hCh _⟩
      rw [hzr m]
      have := hnew ((zs ++ List.replicate m 0).map (Value.int k)) (grownCap w (n + m) n e - (n + m)) rfl
      rw [List.map_append, ← List.append_toArray] at this
      exact this
end

theorem v4P (a b c d : Int) (w : World) : Calls Tryd.prog 120 #[.int .u8 a, .int .u8 b, .int .u8 c, .int .u8 d] w fun e w' => e = .returned (.agg #[.bool false, .int .u8 a, .int .u8 b, .int .u8 c, .int .u8 d, .int .u8 0, .int .u8 0, .int .u8 0, .int .u8 0, .int .u8 0, .int .u8 0, .int .u8 0, .int .u8 0, .int .u8 0, .int .u8 0, .int .u8 0, .int .u8 0]) ∧ Ch [] w w' := by
  go_enter Tryd.func120, Tryd.ntmps120
  go_wp2_with (refine wpList_storeB rfl 57 _ _ rfl w.heap.size 57 (addrC false zeros) (addrC false [a, b, c, d, 0, 0, 0, 0, 0, 0, 0, 0, 0, 0, 0, 0]) rfl rfl (Blk.new _ _ _) addr_info rfl rfl ?_; intro w2 B2 C2 Z2)
  try simp only [Exit.inBlock, Exit.then]
  refine bodyPost_ret (results_row1 rfl _ _ rfl B2 Tryd.underlying57 rfl addr_info) rfl ?_
  exact ⟨rfl, ((Ch.refl [] w).alloc _).step C2 (fun i hi => .inr (by simp at hi; omega))⟩
set_option maxRecDepth 20000 in
set_option maxHeartbeats 4000000 in
theorem ipV6 (A : Option Addr) (cp : Nat) (gs : List Int) (w : World) (hr : RdI .u16 w w.heap.size A 8 gs) (hl : gs.length = 8) (hb : ∀ x ∈ gs, 0 ≤ x ∧ x ≤ 65535) :
    Calls Tryd.prog 127 #[.slice A 8 cp] w fun e w' => e = .returned (.tuple #[.agg (addrC true (grpB gs)).toArray, .bool true]) ∧ Ch [] w w' := by
  have HI := hid (addr_inf (six := true) (bs := zeros) rfl)
  have hl16 : (grpB gs).length = 16 := by rw [grpB_len, hl]
  have HI2 := hid (addr_inf (six := true) (bs := grpB gs) hl16)
  have HFS := hid (fun k (hk : k < 16) => fill_set (grpB gs) zeros k (by omega) (by show k < 16; omega))
  have HGA := hid (fun k (hk : k < 8) => grpB_at gs k (by omega))
  have HBB := hid (fun k (hk : k < 8) => hb (at_ gs k) (by simp [at_, List.getD, hl, hk]))
  obtain ⟨q, off, rfl, hqw, hcell⟩ := hr.2 (by omega)
  have HCE := hid hcell
  have HLE : Hid (∀ k, k ≤ 16 → ((grpB gs).take k ++ zeros.drop k).length = 16) := fun k hk => by rw [List.length_append, List.length_take, List.length_drop, hl16]; show min k 16 + (16 - k) = 16; omega
  clear hcell hr hb
  go_enter Tryd.func127, Tryd.ntmps127
  have hB1 : Blk (w.alloc (.cells (addrC false zeros).toArray 57)) w.heap.size 57 (addrC false zeros) := Blk.new _ _ _
  go_wp2_with (refine wpList_storeB rfl 57 _ _ rfl (w.heap.size + 1) 57 (addrC false zeros) (addrC true zeros) rfl rfl (Blk.newAt _ _ _ (by simp)) HI.out rfl (addr_one' _ _) ?_; intro w2 B2 C2 Z2; have B1 := (hB1.alloc _).ch C2 (by simp); have CC := (((Ch.refl [] w).alloc _).alloc _).step C2 (fun i hi => .inr (by simp at hi; omega)))
  clear Z2
  have hz16 : (addrC true zeros) = addrC true ((grpB gs).take (2 * 0) ++ zeros.drop (2 * 0)) := by simp
  rw [hz16] at B2
  clear hz16
  go_loopw [14] (fun i wr => ∃ k : Nat, k ≤ 8 ∧ i = .int .i64 k ∧ Blk wr w.heap.size 57 (addrC false zeros) ∧ Blk wr (w.heap.size + 1) 57 (addrC true ((grpB gs).take (2 * k) ++ zeros.drop (2 * k))) ∧ Ch [] w wr) (fun i _ => 8 - (intOf i).toNat)
  case atStart => exact ⟨0, by omega, rfl, B1, B2, CC⟩
  case round =>
    clear B1 B2 CC C2 hB1
    obtain ⟨k, hk, rfl, B1, B2, CC⟩ := hrel
    have lt2 := B2.lt
    by_cases hlt : k < 8
    · obtain ⟨x0, x1⟩ := HBB.out k hlt
      obtain ⟨g0, g1⟩ := HGA.out k hlt
      have hf0 := HFS.out (2 * k) (by omega)
      have hf1 := HFS.out (2 * k + 1) (by omega)
      rw [g0] at hf0
      rw [g1] at hf1
      have hcx : wr.cell? ⟨q, off + k, none⟩ = some (.int .u16 (at_ gs k)) := (CC.cell (p := ⟨q, off + k, none⟩) hqw (by simp)).trans (HCE.out k hlt)
      have hcx2 : ∀ w', Ch [] w w' → w'.cell? ⟨q, off + k, none⟩ = some (.int .u16 (at_ gs k)) := fun w' h => (h.cell (p := ⟨q, off + k, none⟩) hqw (by simp)).trans (HCE.out k hlt)
      have BS : Blk ((wr.setCell ⟨w.heap.size + 1, 1 + 2 * k, none⟩ (.int .u8 (at_ gs k / 256))).setCell ⟨w.heap.size + 1, 1 + (2 * k + 1), none⟩ (.int .u8 (at_ gs k % 256))) (w.heap.size + 1) 57 (addrC true ((grpB gs).take (2 * (k + 1)) ++ zeros.drop (2 * (k + 1)))) := by
        rw [show 2 * (k + 1) = 2 * k + 1 + 1 by omega, ← hf1, ← addr_set, ← hf0, ← addr_set]
        exact (B2.set _ _).set _ _
      have BS1 : Blk ((wr.setCell ⟨w.heap.size + 1, 1 + 2 * k, none⟩ (.int .u8 (at_ gs k / 256))).setCell ⟨w.heap.size + 1, 1 + (2 * k + 1), none⟩ (.int .u8 (at_ gs k % 256))) w.heap.size 57 (addrC false zeros) := (B1.far (p := ⟨w.heap.size + 1, 1 + 2 * k, none⟩) (by simp) _).far (p := ⟨w.heap.size + 1, 1 + (2 * k + 1), none⟩) (by simp) _
      have CS : Ch [] w ((wr.setCell ⟨w.heap.size + 1, 1 + 2 * k, none⟩ (.int .u8 (at_ gs k / 256))).setCell ⟨w.heap.size + 1, 1 + (2 * k + 1), none⟩ (.int .u8 (at_ gs k % 256))) := (CC.setCell (p := ⟨w.heap.size + 1, 1 + 2 * k, none⟩) (.inr (by simp)) _).setCell (p := ⟨w.heap.size + 1, 1 + (2 * k + 1), none⟩) (.inr (by simp)) _
      obtain ⟨u0, hc0⟩ : ∃ u, wr.cell? ⟨w.heap.size + 1, 1 + 2 * k, none⟩ = some (.int .u8 u) := ⟨_, (B2.cell (1 + 2 * k)).trans (addrC_byte (by rw [HLE.out (2 * k) (by omega)]; omega))⟩
      have hF0 := B2.frozen (1 + 2 * k)
      have hcl := fun v => (B2.set (1 + 2 * k) v).cell (1 + (2 * k + 1))
      have hfl := fun v => (B2.set (1 + 2 * k) v).frozen (1 + (2 * k + 1))
      have hc1 : (wr.setCell ⟨w.heap.size + 1, 1 + 2 * k, none⟩ (.int .u8 (at_ gs k / 256))).cell? ⟨w.heap.size + 1, 1 + (2 * k + 1), none⟩ = some (.int .u8 (at_ ((grpB gs).take (2 * k) ++ zeros.drop (2 * k)) (2 * k + 1))) := by
        rw [hcl, List.getElem?_set_ne (by omega)]
        exact addrC_byte (by rw [HLE.out (2 * k) (by omega)]; omega)
      have hF1 := hfl (.int .u8 (at_ gs k / 256))
      clear hcl hfl hf0 hf1 g0 g1 hcx2
      generalize at_ ((grpB gs).take (2 * k) ++ zeros.drop (2 * k)) (2 * k + 1) = u1 at hc1
      have HBS := hid BS
      have HBS1 := hid BS1
      have HCS := hid CS
      clear BS BS1 CS
      generalize at_ gs k = x at hcx x0 x1 hc1 hF1 HBS HBS1 HCS
      go_wp2_with fail
      go_roundw
      case rel => exact ⟨k + 1, by omega, by go_num, HBS1.out, HBS.out, HCS.out⟩
      case measure => simp [intOf]; omega
    · obtain rfl : k = 8 := by omega
      have hfull : (grpB gs).take (2 * 8) ++ zeros.drop (2 * 8) = grpB gs := by
        rw [List.take_of_length_le (by omega)]; show grpB gs ++ [] = _; rw [List.append_nil]
      rw [hfull] at B2
      go_wp2_with (first
        | (refine wpList_loadB rfl 57 _ rfl (w.heap.size + 1) 57 (addrC true (grpB gs)) _ rfl B2 Tryd.underlying57 rfl HI2.out ?_)
        | (refine wpList_storeB rfl 57 _ _ rfl w.heap.size 57 (addrC false zeros) (addrC true (grpB gs)) rfl rfl B1 HI2.out ((addr_len (six := false) (bs := zeros) rfl).trans (addr_len hl16).symm) (addr_one' _ _) ?_; intro w5 B5 C5 Z5))
      try simp only [Exit.inBlock, Exit.then]
      refine bodyPost_ret (results_rowF2 rfl _ _ rfl B5 Tryd.underlying57 rfl HI2.out) rfl ?_
      exact ⟨rfl, CC.step C5 (fun i hi => .inr (by simp at hi; omega))⟩

theorem u16_infoZ : (Tryd.prog.info? 147).map (fun i => (i.zero, i.size, i.bytes)) = some (some (.int .u16 0), 1, 2) := by kernel_rfl
theorem grpB_app (a b : List Int) : grpB (a ++ b) = grpB a ++ grpB b := by unfold grpB; rw [List.flatMap_append]
theorem full_good {gs : List Int} (hl : gs.length ≤ 8) (hb : ∀ x ∈ gs, 0 ≤ x ∧ x ≤ 65535) : (gs ++ List.replicate (8 - gs.length) 0).length = 8 ∧ ∀ x ∈ gs ++ List.replicate (8 - gs.length) 0, 0 ≤ x ∧ x ≤ 65535 := by
  refine ⟨by simp; omega, fun x hx => ?_⟩
  rcases List.mem_append.1 hx with h | h
  · exact hb x h
  · have := List.eq_of_mem_replicate h; omega
end Go.Proofs.YtbmbnibamhgfmaaDoor

/- The block list: the plain laws. -/
namespace Go.Proofs.YtbmbnibamhgfmaaDoor
open Go.RowKit

def mapA (a b c d : Int) : List Int := [0, 0, 0, 0, 0, 0, 0, 0, 0, 0, 255, 255, a, b, c, d]
def natA (a b c d : Int) : List Int := [0, 100, 255, 155, 0, 0, 0, 0, 0, 0, 0, 0, a, b, c, d]
def v4A (a b c d : Int) : List Int := [a, b, c, d, 0, 0, 0, 0, 0, 0, 0, 0, 0, 0, 0, 0]
def Byt (b : Int) : Prop := 0 ≤ b ∧ b ≤ 255
theorem cut0 {b : Int} (h : Byt b) : cutB b 0 = 0 := by
  unfold Byt at h; unfold cutB hiB; simp only [Nat.sub_zero, Int.reducePow]; omega
theorem cut8 (b : Int) : cutB b 8 = b := by
  unfold cutB hiB; simp only [Nat.sub_self, Int.pow_zero]; omega
theorem trunc16 (b0 b1 b2 b3 b4 b5 b6 b7 b8 b9 b10 b11 b12 b13 b14 b15 n : Int) : truncL [b0, b1, b2, b3, b4, b5, b6, b7, b8, b9, b10, b11, b12, b13, b14, b15] n =
    [cutB b0 (keepB n 0), cutB b1 (keepB n 1), cutB b2 (keepB n 2), cutB b3 (keepB n 3), cutB b4 (keepB n 4), cutB b5 (keepB n 5), cutB b6 (keepB n 6), cutB b7 (keepB n 7), cutB b8 (keepB n 8), cutB b9 (keepB n 9), cutB b10 (keepB n 10), cutB b11 (keepB n 11), cutB b12 (keepB n 12), cutB b13 (keepB n 13), cutB b14 (keepB n 14), cutB b15 (keepB n 15)] := by simp [truncL, List.mapIdx_cons]
theorem byt0 : Byt 0 := ⟨by omega, by omega⟩
theorem cont_other {p : Pfx} {six : Bool} (a : List Int) (h : (p.1 == six) = false) : contP p six a = false := by
  unfold contP; rw [h, Bool.and_false, Bool.false_and]
theorem cont_six {p : Pfx} {six : Bool} {a : List Int} (hv : validP p = true) (ha : validA six a = true) (h6 : (p.1 == six) = true) : contP p six a = decide (truncL a p.2.2 = p.2.1) := by
  unfold contP; rw [hv, ha, h6]; rfl
theorem idx_six (a : List Int) : idxP true a blkT 0 = idxP true a (blkT.drop 8) 8 := by
  have h : ∀ p ∈ blkT.take 8, (p.1 == true) = false := by decide
  simp only [blkT, List.take_succ_cons, List.take_zero, List.mem_cons, List.not_mem_nil, or_false, forall_eq_or_imp, forall_eq] at h
  obtain ⟨h0, h1, h2, h3, h4, h5, h6, h7⟩ := h
  simp only [blkT, idxP, List.drop_succ_cons, List.drop_zero, cont_other a h0, cont_other a h1, cont_other a h2, cont_other a h3, cont_other a h4, cont_other a h5, cont_other a h6, cont_other a h7, Bool.false_eq_true, if_false, Nat.reduceAdd]
theorem trunc_mapA96 {a b c d : Int} (ha : Byt a) (hb : Byt b) (hc : Byt c) (hd : Byt d) : truncL (mapA a b c d) 96 = mapA 0 0 0 0 := by
  unfold mapA
  rw [trunc16]
  simp only [show keepB 96 0 = 8 from rfl, show keepB 96 1 = 8 from rfl, show keepB 96 2 = 8 from rfl, show keepB 96 3 = 8 from rfl, show keepB 96 4 = 8 from rfl, show keepB 96 5 = 8 from rfl, show keepB 96 6 = 8 from rfl, show keepB 96 7 = 8 from rfl, show keepB 96 8 = 8 from rfl, show keepB 96 9 = 8 from rfl, show keepB 96 10 = 8 from rfl, show keepB 96 11 = 8 from rfl, show keepB 96 12 = 0 from rfl, show keepB 96 13 = 0 from rfl, show keepB 96 14 = 0 from rfl, show keepB 96 15 = 0 from rfl, cut8, cut0 ha, cut0 hb, cut0 hc, cut0 hd]
theorem trunc_natA96 {a b c d : Int} (ha : Byt a) (hb : Byt b) (hc : Byt c) (hd : Byt d) : truncL (natA a b c d) 96 = natA 0 0 0 0 := by
  unfold natA
  rw [trunc16]
  simp only [show keepB 96 0 = 8 from rfl, show keepB 96 1 = 8 from rfl, show keepB 96 2 = 8 from rfl, show keepB 96 3 = 8 from rfl, show keepB 96 4 = 8 from rfl, show keepB 96 5 = 8 from rfl, show keepB 96 6 = 8 from rfl, show keepB 96 7 = 8 from rfl, show keepB 96 8 = 8 from rfl, show keepB 96 9 = 8 from rfl, show keepB 96 10 = 8 from rfl, show keepB 96 11 = 8 from rfl, show keepB 96 12 = 0 from rfl, show keepB 96 13 = 0 from rfl, show keepB 96 14 = 0 from rfl, show keepB 96 15 = 0 from rfl, cut8, cut0 ha, cut0 hb, cut0 hc, cut0 hd]
/-- A prefix that asks for another byte than the address has does not contain it. -/
theorem cont_not {p : Pfx} {six : Bool} {a : List Int} (i : Nat) (hi : i < a.length) (h : cutB (at_ a i) (keepB p.2.2 i) ≠ at_ p.2.1 i) : contP p six a = false := by
  unfold contP
  have : decide (truncL a p.2.2 = p.2.1) = false := by
    rw [decide_eq_false_iff_not]
    intro e
    apply h
    rw [← e, trunc_at _ _ _ hi]
  rw [this, Bool.and_false]
theorem idx_mapped {a b c d : Int} (ha : Byt a) (hb : Byt b) (hc : Byt c) (hd : Byt d) : idxP true (mapA a b c d) blkT 0 = 10 := by
  rw [idx_six]
  have e0 : contP (pf6 [] 128) true (mapA a b c d) = false := cont_not 10 (show 10 < 16 by omega) (by show cutB 255 8 ≠ 0; decide)
  have e1 : contP (pf6 [0, 0, 0, 0, 0, 0, 0, 1] 128) true (mapA a b c d) = false := cont_not 10 (show 10 < 16 by omega) (by show cutB 255 8 ≠ 0; decide)
  have e2 : contP (pf6 [0, 0, 0, 0, 0, 65535] 96) true (mapA a b c d) = true := by
    rw [cont_six (by decide) rfl rfl, decide_eq_true_eq]
    exact trunc_mapA96 ha hb hc hd
  simp only [blkT, List.drop_succ_cons, List.drop_zero, idxP, e0, e1, e2, Bool.false_eq_true, if_false, if_true]
  rfl
theorem idx_nat64 {a b c d : Int} (ha : Byt a) (hb : Byt b) (hc : Byt c) (hd : Byt d) : idxP true (natA a b c d) blkT 0 = 11 := by
  rw [idx_six]
  have e0 : contP (pf6 [] 128) true (natA a b c d) = false := cont_not 1 (show 1 < 16 by omega) (by show cutB 100 8 ≠ 0; decide)
  have e1 : contP (pf6 [0, 0, 0, 0, 0, 0, 0, 1] 128) true (natA a b c d) = false := cont_not 1 (show 1 < 16 by omega) (by show cutB 100 8 ≠ 0; decide)
  have e2 : contP (pf6 [0, 0, 0, 0, 0, 65535] 96) true (natA a b c d) = false := cont_not 1 (show 1 < 16 by omega) (by show cutB 100 8 ≠ 0; decide)
  have e3 : contP (pf6 [100, 65435] 96) true (natA a b c d) = true := by
    rw [cont_six (by decide) rfl rfl, decide_eq_true_eq]
    exact trunc_natA96 ha hb hc hd
  simp only [blkT, List.drop_succ_cons, List.drop_zero, idxP, e0, e1, e2, e3, Bool.false_eq_true, if_false, if_true]
  rfl
theorem idx_nonneg (six : Bool) (a : List Int) (l : List Pfx) (i : Nat) : decide (0 ≤ idxP six a l i) = l.any fun p => contP p six a := by
  induction l generalizing i with
  | nil => rfl
  | cons p l ih =>
    rw [List.any_cons, idxP]
    cases h : contP p six a with
    | true => rw [if_pos rfl, Bool.true_or, decide_eq_true_eq]; omega
    | false => rw [if_neg (by decide), Bool.false_or]; exact ih _
theorem trunc_v4 {a b c d : Int} (n : Int) (hn : n ≤ 16) (hc : Byt c) (hd : Byt d) : truncL (v4A a b c d) n = v4A (cutB a (keepB n 0)) (cutB b (keepB n 1)) 0 0 := by
  unfold v4A
  rw [trunc16]
  have k (i : Nat) (hi : 2 ≤ i) : keepB n i = 0 := by unfold keepB; omega
  rw [k 2 (by omega), k 3 (by omega), k 4 (by omega), k 5 (by omega), k 6 (by omega), k 7 (by omega), k 8 (by omega), k 9 (by omega), k 10 (by omega), k 11 (by omega), k 12 (by omega), k 13 (by omega), k 14 (by omega), k 15 (by omega), cut0 hc, cut0 hd, cut0 byt0]
theorem cont_v4 {a b c d A B n : Int} (hv : validP (pf4 A B 0 0 n) = true) (hn : n ≤ 16) (hc : Byt c) (hd : Byt d) : contP (pf4 A B 0 0 n) false (v4A a b c d) = (decide (cutB a (keepB n 0) = A) && decide (cutB b (keepB n 1) = B)) := by
  rw [cont_six hv rfl rfl, ← Bool.decide_and]
  apply decide_eq_decide.2
  show truncL (v4A a b c d) n = v4A A B 0 0 ↔ _
  rw [trunc_v4 n hn hc hd]
  unfold v4A
  simp only [List.cons.injEq, and_true]
theorem cut_byte (b : Int) (h : Byt b) : (decide (cutB b 3 = 224) = decide (224 ≤ b)) ∧ (decide (cutB b 2 = 64) = (decide (64 ≤ b) && decide (b < 128))) ∧ (decide (cutB b 4 = 16) = (decide (16 ≤ b) && decide (b < 32))) := by
  have hall : ∀ b : Fin 256, (decide (cutB b.val 3 = 224) = decide (224 ≤ (b.val : Int))) ∧ (decide (cutB b.val 2 = 64) = (decide (64 ≤ (b.val : Int)) && decide ((b.val : Int) < 128))) ∧ (decide (cutB b.val 4 = 16) = (decide (16 ≤ (b.val : Int)) && decide ((b.val : Int) < 32))) := by decide +kernel
  obtain ⟨n, rfl⟩ := Int.eq_ofNat_of_zero_le h.1
  exact hall ⟨n, by have := h.2; omega⟩
def blk4 (a b : Int) : Bool := decide (a = 0) || decide (a = 10) || decide (a = 127) || decide (224 ≤ a) || (decide (a = 100) && decide (64 ≤ b) && decide (b < 128)) || (decide (a = 169) && decide (b = 254)) || (decide (a = 172) && decide (16 ≤ b) && decide (b < 32)) || (decide (a = 192) && decide (b = 168))
theorem idx_v4 {a b c d : Int} (ha : Byt a) (hb : Byt b) (hc : Byt c) (hd : Byt d) : decide (0 ≤ idxP false (v4A a b c d) blkT 0) = blk4 a b := by
  rw [idx_nonneg]
  have e0 : contP (pf4 0 0 0 0 8) false (v4A a b c d) = decide (a = 0) := by
    rw [cont_v4 (by decide) (by omega) hc hd]; show (decide (cutB a 8 = 0) && decide (cutB b 0 = 0)) = _; rw [cut8, cut0 hb]; simp
  have e1 : contP (pf4 10 0 0 0 8) false (v4A a b c d) = decide (a = 10) := by
    rw [cont_v4 (by decide) (by omega) hc hd]; show (decide (cutB a 8 = 10) && decide (cutB b 0 = 0)) = _; rw [cut8, cut0 hb]; simp
  have e2 : contP (pf4 100 64 0 0 10) false (v4A a b c d) = (decide (a = 100) && decide (64 ≤ b) && decide (b < 128)) := by
    rw [cont_v4 (by decide) (by omega) hc hd]; show (decide (cutB a 8 = 100) && decide (cutB b 2 = 64)) = _; rw [cut8, (cut_byte b hb).2.1, Bool.and_assoc]
  have e3 : contP (pf4 127 0 0 0 8) false (v4A a b c d) = decide (a = 127) := by
    rw [cont_v4 (by decide) (by omega) hc hd]; show (decide (cutB a 8 = 127) && decide (cutB b 0 = 0)) = _; rw [cut8, cut0 hb]; simp
  have e4 : contP (pf4 169 254 0 0 16) false (v4A a b c d) = (decide (a = 169) && decide (b = 254)) := by
    rw [cont_v4 (by decide) (by omega) hc hd]; show (decide (cutB a 8 = 169) && decide (cutB b 8 = 254)) = _; rw [cut8, cut8]
  have e5 : contP (pf4 172 16 0 0 12) false (v4A a b c d) = (decide (a = 172) && decide (16 ≤ b) && decide (b < 32)) := by
    rw [cont_v4 (by decide) (by omega) hc hd]; show (decide (cutB a 8 = 172) && decide (cutB b 4 = 16)) = _; rw [cut8, (cut_byte b hb).2.2, Bool.and_assoc]
  have e6 : contP (pf4 192 168 0 0 16) false (v4A a b c d) = (decide (a = 192) && decide (b = 168)) := by
    rw [cont_v4 (by decide) (by omega) hc hd]; show (decide (cutB a 8 = 192) && decide (cutB b 8 = 168)) = _; rw [cut8, cut8]
  have e7 : contP (pf4 224 0 0 0 3) false (v4A a b c d) = decide (224 ≤ a) := by
    rw [cont_v4 (by decide) (by omega) hc hd]; show (decide (cutB a 3 = 224) && decide (cutB b 0 = 0)) = _; rw [(cut_byte a ha).1, cut0 hb]; simp
  have hs (gs : List Int) (n : Int) : contP (pf6 gs n) false (v4A a b c d) = false := cont_other _ rfl
  simp only [blkT, List.any_cons, List.any_nil, e0, e1, e2, e3, e4, e5, e6, e7, hs, Bool.or_false]
  unfold blk4
  generalize decide (a = 0) = x0, decide (a = 10) = x1, (decide (a = 100) && decide (64 ≤ b) && decide (b < 128)) = x2, decide (a = 127) = x3, (decide (a = 169) && decide (b = 254)) = x4, (decide (a = 172) && decide (16 ≤ b) && decide (b < 32)) = x5, (decide (a = 192) && decide (b = 168)) = x6, decide (224 ≤ a) = x7
  cases x0 <;> cases x1 <;> cases x2 <;> cases x3 <;> cases x4 <;> cases x5 <;> cases x6 <;> cases x7 <;> rfl
/-- Whether a prefix covers another. -/
def covP (p q : Pfx) : Bool := validP q && decide (p.2.2 ≤ q.2.2) && contP p q.1 q.2.1
theorem blk_disjoint : ∀ i j : Fin 15, i ≠ j → covP (blkT[i.val]'(by exact i.isLt)) (blkT[j.val]'(by exact j.isLt)) = false := by decide +kernel
theorem blk_len : blkT.length = 15 := rfl
theorem blk_good : ∀ p ∈ blkT, p.2.1.length = 16 ∧ ∀ x ∈ p.2.1, 0 ≤ x ∧ x ≤ 255 := by decide +kernel
theorem blk_valid : ∀ p ∈ blkT, validP p = true := by decide +kernel
end Go.Proofs.YtbmbnibamhgfmaaDoor

/- blocklist.prefix6, policytable.policyRow: a prefix, a row with the given leading groups. -/
namespace Go.Proofs.YtbmbnibamhgfmaaDoor
open Go.RowKit

theorem pfx_cells (six : Bool) (b0 b1 b2 b3 b4 b5 b6 b7 b8 b9 b10 b11 b12 b13 b14 b15 n : Int) : pfxC (six, [b0, b1, b2, b3, b4, b5, b6, b7, b8, b9, b10, b11, b12, b13, b14, b15], n) = [.bool six, .int .u8 b0, .int .u8 b1, .int .u8 b2, .int .u8 b3, .int .u8 b4, .int .u8 b5, .int .u8 b6, .int .u8 b7, .int .u8 b8, .int .u8 b9, .int .u8 b10, .int .u8 b11, .int .u8 b12, .int .u8 b13, .int .u8 b14, .int .u8 b15, .int .i64 n] := rfl
theorem addr_cells (six : Bool) (b0 b1 b2 b3 b4 b5 b6 b7 b8 b9 b10 b11 b12 b13 b14 b15 : Int) : addrC six [b0, b1, b2, b3, b4, b5, b6, b7, b8, b9, b10, b11, b12, b13, b14, b15] = [.bool six, .int .u8 b0, .int .u8 b1, .int .u8 b2, .int .u8 b3, .int .u8 b4, .int .u8 b5, .int .u8 b6, .int .u8 b7, .int .u8 b8, .int .u8 b9, .int .u8 b10, .int .u8 b11, .int .u8 b12, .int .u8 b13, .int .u8 b14, .int .u8 b15] := rfl
def rowC (r : Pfx × Int × Int) : List Value := pfxC r.1 ++ [.int .i64 r.2.1, .int .i64 r.2.2]
theorem row_len {r : Pfx × Int × Int} (h : r.1.2.1.length = 16) : (rowC r).length = 20 := by unfold rowC; rw [List.length_append, pfx_len h]; rfl
theorem row_one (r : Pfx × Int × Int) : (rowC r).all (·.oneCell') = true := by
  unfold rowC
  rw [List.all_append, pfx_one]
  rfl

set_option maxRecDepth 20000 in
set_option maxHeartbeats 4000000 in
theorem pre6 (A : Option Addr) (n : Nat) (gs : List Int) (bits : Int) (B : Nat) (w : World) (hr : RdI .u16 w B A n gs) (hB : B ≤ w.heap.size) (hn : n ≤ 8) (hA : n = 0 → A = none) (hb : ∀ x ∈ gs, 0 ≤ x ∧ x ≤ 65535) :
    Calls Tryd.prog 121 #[.int .i64 bits, .slice A n n] w fun e w' => e = .returned (.agg (pfxC (pf6 gs bits)).toArray) ∧ Ch [] w w' := by
  have hl := hr.1
  obtain ⟨hfl, hfb⟩ := full_good (gs := gs) (by omega) hb
  have hgd := grpB_good hfl hfb
  have hpf : pf6 gs bits = (true, grpB (gs ++ List.replicate (8 - gs.length) 0), bits) := rfl
  have HV := hid (fun (W : World) A cp hr => ipV6 A cp (gs ++ List.replicate (8 - gs.length) 0) W hr hfl hfb)
  rw [hpf]
  obtain ⟨W1, hW1⟩ : ∃ W1, w.alloc (.cells #[.bool false, .int .u8 0, .int .u8 0, .int .u8 0, .int .u8 0, .int .u8 0, .int .u8 0, .int .u8 0, .int .u8 0, .int .u8 0, .int .u8 0, .int .u8 0, .int .u8 0, .int .u8 0, .int .u8 0, .int .u8 0, .int .u8 0, .int .i64 0] 59) = W1 := ⟨_, rfl⟩
  have hC1 : Ch [] w W1 := hW1 ▸ (Ch.refl _ _).alloc _
  have hB1 : Blk W1 w.heap.size 59 (pfxC (false, zeros, 0)) := hW1 ▸ Blk.new _ _ _
  have hr1 := hr.ch hC1 hB (by simp)
  obtain ⟨A2, c2, W2, happ, hr2, hC2⟩ := run_appZ (P := Tryd.prog) W1 .u16 143 3 143 147 2 .i64 .i64 Tryd.underlying143 Tryd.underlying3 u16_infoZ (by omega) B A n gs hr1 (Nat.le_trans hB hC1.size) (8 - n) hA (by omega) (8 - (n : Int)) (by omega)
  rw [show n + (8 - n) = 8 by omega] at happ hr2
  rw [show 8 - n = 8 - gs.length by omega] at hr2
  have HV2 := hid (HV.out W2 A2 c2 hr2)
  have hB2 := hB1.ch hC2 (by simp)
  have CC2 := hC1.trans hC2
  obtain ⟨b0, b1, b2, b3, b4, b5, b6, b7, b8, b9, b10, b11, b12, b13, b14, b15, he⟩ := len16 hgd.1
  rw [he] at HV2 ⊢
  clear HV hgd hfl hfb hpf he hb hr hr1 hr2 hl
  rw [addr_cells] at HV2
  have hsub : (0 : Int) ≤ 8 - (n : Int) ∧ 8 - (n : Int) ≤ 8 := by omega
  obtain ⟨hs0, hs1⟩ := hsub
  have HI := hid (addr_inf (six := true) (bs := [b0, b1, b2, b3, b4, b5, b6, b7, b8, b9, b10, b11, b12, b13, b14, b15]) rfl)
  have HIP := hid (pfx_inf (p := (true, [b0, b1, b2, b3, b4, b5, b6, b7, b8, b9, b10, b11, b12, b13, b14, b15], bits)) rfl)
  subst hW1
  go_enter Tryd.func121, Tryd.ntmps121
  go_wp2_with (first
    | (at_builtin; refine Lib.wpList_append_run _ rfl _ _ _ _ rfl _ _ rfl rfl _ _ happ ?_)
    | (go_at_call 127; (with_reducible refine (HV2.out).mono ?_); rintro e w3 ⟨rfl, C3⟩; have B3 := hB2.ch C3 (by simp); have CC3 := CC2.trans C3; have lt3 := B3.lt)
    | (refine wpList_storeB rfl 59 _ _ rfl w.heap.size 59 (pfxC (false, zeros, 0)) (pfxC (true, [b0, b1, b2, b3, b4, b5, b6, b7, b8, b9, b10, b11, b12, b13, b14, b15], bits)) rfl rfl B4 HIP.out rfl (pfx_one _) ?_; intro w5 B5 C5 Z5; have CC5 := CC4.step C5 (fun i hi => .inr (by simp at hi; omega)))
    | (refine wpList_loadB rfl 57 _ rfl w3.heap.size 57 [.bool true, .int .u8 b0, .int .u8 b1, .int .u8 b2, .int .u8 b3, .int .u8 b4, .int .u8 b5, .int .u8 b6, .int .u8 b7, .int .u8 b8, .int .u8 b9, .int .u8 b10, .int .u8 b11, .int .u8 b12, .int .u8 b13, .int .u8 b14, .int .u8 b15] _ rfl A4 Tryd.underlying57 rfl HI.out ?_)
    | (refine wpList_storeB rfl 57 _ _ rfl w3.heap.size 57 (addrC false zeros) (addrC true [b0, b1, b2, b3, b4, b5, b6, b7, b8, b9, b10, b11, b12, b13, b14, b15]) rfl rfl (Blk.new _ _ _) HI.out rfl (addr_one' _ _) ?_; intro w4 A4 C4 Z4; have CC4 := (CC3.alloc _).step C4 (fun i hi => .inr (by simp at hi; have := CC3.size; omega)); have B4 := (B3.alloc _).ch C4 (by simp; omega); clear Z4))
  try simp only [Exit.inBlock, Exit.then]
  refine bodyPost_ret (results_row1 rfl _ _ rfl B5 Tryd.underlying59 rfl HIP.out) rfl ?_
  exact ⟨rfl, CC5⟩
end Go.Proofs.YtbmbnibamhgfmaaDoor

/- cidr.Contains. -/
namespace Go.Proofs.YtbmbnibamhgfmaaDoor
open Go.RowKit

set_option maxRecDepth 20000 in
set_option maxHeartbeats 4000000 in
theorem contPfx (six : Bool) (bs : List Int) (n : Int) (hg : GoodA bs) (s6 : Bool) (av : List Int) (ha : GoodA av) (w : World) :
    Calls Tryd.prog 109 #[.agg (pfxC (six, bs, n)).toArray, .agg (addrC s6 av).toArray] w fun e w' => e = .returned (.bool (contP (six, bs, n) s6 av)) ∧ Ch [] w w' := by
  have hC0 : Ch [] w ((w.alloc (.cells (pfxC (six, bs, n)).toArray 59)).alloc (.cells (addrC s6 av).toArray 57)) := ((Ch.refl _ _).alloc _).alloc _
  have hB : Blk ((w.alloc (.cells (pfxC (six, bs, n)).toArray 59)).alloc (.cells (addrC s6 av).toArray 57)) w.heap.size 59 (pfxC (six, bs, n)) := (Blk.new w _ _).alloc _
  have hB2 : Blk ((w.alloc (.cells (pfxC (six, bs, n)).toArray 59)).alloc (.cells (addrC s6 av).toArray 57)) (w.heap.size + 1) 57 (addrC s6 av) := Blk.newAt _ _ _ (by simp)
  have HVP := hid (validPfx six bs n hg)
  have HVA := hid (ipValid s6 av ha.1 ha.2)
  have HTR := hid (fun h0 h1 => truncP s6 av ha n h0 h1)
  have HEQ := fun w => addr_eq s6 six (truncL av n) bs (trunc_good ha n).1 hg.1 w
  have HI := hid (addr_inf (six := six) hg.1)
  have HIV := hid (addr_inf (six := s6) ha.1)
  have HIP := hid (pfx_inf (p := (six, bs, n)) hg.1)
  have HRP : Hid (∀ w', Ch [] ((w.alloc (.cells (pfxC (six, bs, n)).toArray 59)).alloc (.cells (addrC s6 av).toArray 57)) w' → w'.rangeAt w.heap.size 0 (pfxC (six, bs, n))) := fun w' h => (hB.ch h (by simp)).range
  have HRB : Hid (∀ w', Ch [] ((w.alloc (.cells (pfxC (six, bs, n)).toArray 59)).alloc (.cells (addrC s6 av).toArray 57)) w' → w'.rangeAt w.heap.size 0 (addrC six bs)) := fun w' h => (hB.ch h (by simp)).rangeMid 0 _ (fun j v hj => pfx_addr (p := (six, bs, n)) hj)
  have HRV : Hid (∀ w', Ch [] ((w.alloc (.cells (pfxC (six, bs, n)).toArray 59)).alloc (.cells (addrC s6 av).toArray 57)) w' → w'.rangeAt (w.heap.size + 1) 0 (addrC s6 av)) := fun w' h => (hB2.ch h (by simp)).range
  have h17 : ∀ x : After ((w.alloc (.cells (pfxC (six, bs, n)).toArray 59)).alloc (.cells (addrC s6 av).toArray 57)), x.w.cell? ⟨w.heap.size, 17, none⟩ = some (.int .i64 n) := fun x => ((hB.ch x.ch (by simp)).cell 17).trans (pfx_bits (p := (six, bs, n)) hg.1)
  have h00 : ∀ x : After ((w.alloc (.cells (pfxC (six, bs, n)).toArray 59)).alloc (.cells (addrC s6 av).toArray 57)), x.w.cell? ⟨w.heap.size, 0, none⟩ = some (.bool six) := fun x => (hB.ch x.ch (by simp)).cell 0
  have h10 : ∀ x : After ((w.alloc (.cells (pfxC (six, bs, n)).toArray 59)).alloc (.cells (addrC s6 av).toArray 57)), x.w.cell? ⟨w.heap.size + 1, 0, none⟩ = some (.bool s6) := fun x => (hB2.ch x.ch (by simp)).cell 0
  have hL : bitL six ≤ 128 := by cases six <;> decide
  obtain ⟨V, hV⟩ : ∃ V, contP (six, bs, n) s6 av = V := ⟨_, rfl⟩
  rw [hV]
  unfold contP at hV
  have hvn : validP (six, bs, n) = true → 0 ≤ n ∧ n ≤ 128 := by
    intro h
    simp only [validP, Bool.and_eq_true, decide_eq_true_eq] at h
    exact ⟨h.1.1.2, by have := h.1.2; omega⟩
  obtain ⟨cs, hcs⟩ : ∃ cs, pfxC (six, bs, n) = cs := ⟨_, rfl⟩
  obtain ⟨vs, hvs⟩ : ∃ vs, addrC s6 av = vs := ⟨_, rfl⟩
  rw [hcs, hvs] at hC0 HRP HRB HRV h17 h00 h10
  rw [hcs] at HIP HVP
  rw [hvs] at HVA HIV HTR
  rw [hcs, hvs]
  clear hB hB2 hcs hvs
  cases hvp : validP (six, bs, n) with
  | false =>
    rw [hvp] at HVP hV
    obtain rfl : V = false := by rw [← hV]; rfl
    go_enter Tryd.func109, Tryd.ntmps109
    go_wp2_with fail
    refine wp_region_quietA ((w.alloc (.cells cs.toArray 59)).alloc (.cells vs.toArray 57)) (by kernel_rfl) (by kernel_rfl) (Ch.refl _ _) ?_
    repeat (first
      | (go_big_quiet_want; refine quiet_rowA 59 _ rfl w.heap.size 0 rfl cs _ HRP.out Tryd.underlying59 rfl HIP.out ?_; simp only [Act.put, List.setIfInBounds_toArray, List.set_cons_succ, List.set_cons_zero]; go_big_quiet_on)
      | (go_big_quiet_want; refine quiet_rowA 57 _ rfl w.heap.size 0 rfl (addrC six bs) _ HRB.out Tryd.underlying57 rfl HI.out ?_; simp only [Act.put, List.setIfInBounds_toArray, List.set_cons_succ, List.set_cons_zero]; go_big_quiet_on)
      | (go_big_quiet_want; refine quiet_rowA 57 _ rfl (w.heap.size + 1) 0 rfl vs _ HRV.out Tryd.underlying57 rfl HIV.out ?_; simp only [Act.put, List.setIfInBounds_toArray, List.set_cons_succ, List.set_cons_zero]; go_big_quiet_on)
      | go_big_quiet_step (first
        | (go_at_call 36; exact after_of (HVP.out _))
        | (go_at_call 57; exact after_of (HVA.out _))
        | (go_at_call 59; exact after_of (HT.out _))))
    refine wpQuiet_nil ?_
    intro wq hwq
    go_wp2_with fail
    go_ret
    exact ⟨rfl, hC0.trans hwq⟩
  | true =>
    have hvn := hvn hvp
    rw [hvp] at HVP hV
    cases hva : validA s6 av with
    | false =>
      rw [hva] at HVA hV
      obtain rfl : V = false := by rw [← hV]; rfl
      go_enter Tryd.func109, Tryd.ntmps109
      go_wp2_with fail
      refine wp_region_quietA ((w.alloc (.cells cs.toArray 59)).alloc (.cells vs.toArray 57)) (by kernel_rfl) (by kernel_rfl) (Ch.refl _ _) ?_
      repeat (first
        | (go_big_quiet_want; refine quiet_rowA 59 _ rfl w.heap.size 0 rfl cs _ HRP.out Tryd.underlying59 rfl HIP.out ?_; simp only [Act.put, List.setIfInBounds_toArray, List.set_cons_succ, List.set_cons_zero]; go_big_quiet_on)
        | (go_big_quiet_want; refine quiet_rowA 57 _ rfl w.heap.size 0 rfl (addrC six bs) _ HRB.out Tryd.underlying57 rfl HI.out ?_; simp only [Act.put, List.setIfInBounds_toArray, List.set_cons_succ, List.set_cons_zero]; go_big_quiet_on)
        | (go_big_quiet_want; refine quiet_rowA 57 _ rfl (w.heap.size + 1) 0 rfl vs _ HRV.out Tryd.underlying57 rfl HIV.out ?_; simp only [Act.put, List.setIfInBounds_toArray, List.set_cons_succ, List.set_cons_zero]; go_big_quiet_on)
        | go_big_quiet_step (first
          | (go_at_call 36; exact after_of (HVP.out _))
          | (go_at_call 57; exact after_of (HVA.out _))
          | (go_at_call 59; exact after_of (HT.out _))))
      refine wpQuiet_nil ?_
      intro wq hwq
      go_wp2_with fail
      go_ret
      exact ⟨rfl, hC0.trans hwq⟩
    | true =>
      rw [hva] at HVA hV
      have HT := hid (HTR.out hvn.1 hvn.2)
      by_cases h6 : six = s6
      case neg =>
        have h6b : (six == s6) = false := by simpa using h6
        obtain rfl : V = false := by rw [← hV]; simp [h6b]
        obtain rfl | rfl := Bool.eq_false_or_eq_true six
        all_goals obtain rfl | rfl := Bool.eq_false_or_eq_true s6
        all_goals first | (exact absurd rfl h6) | skip
        all_goals
          go_enter Tryd.func109, Tryd.ntmps109
          go_wp2_with fail
          refine wp_region_quietA ((w.alloc (.cells cs.toArray 59)).alloc (.cells vs.toArray 57)) (by kernel_rfl) (by kernel_rfl) (Ch.refl _ _) ?_
          repeat (first
            | (go_big_quiet_want; refine quiet_rowA 59 _ rfl w.heap.size 0 rfl cs _ HRP.out Tryd.underlying59 rfl HIP.out ?_; simp only [Act.put, List.setIfInBounds_toArray, List.set_cons_succ, List.set_cons_zero]; go_big_quiet_on)
            | (go_big_quiet_want; refine quiet_rowA 57 _ rfl w.heap.size 0 rfl (addrC six bs) _ HRB.out Tryd.underlying57 rfl HI.out ?_; simp only [Act.put, List.setIfInBounds_toArray, List.set_cons_succ, List.set_cons_zero]; go_big_quiet_on)
            | (go_big_quiet_want; refine quiet_rowA 57 _ rfl (w.heap.size + 1) 0 rfl vs _ HRV.out Tryd.underlying57 rfl HIV.out ?_; simp only [Act.put, List.setIfInBounds_toArray, List.set_cons_succ, List.set_cons_zero]; go_big_quiet_on)
            | go_big_quiet_step (first
              | (go_at_call 36; exact after_of (HVP.out _))
              | (go_at_call 57; exact after_of (HVA.out _))
              | (go_at_call 59; exact after_of (HT.out _))))
          refine wpQuiet_nil ?_
          intro wq hwq
          go_wp2_with fail
          go_ret
          exact ⟨rfl, hC0.trans hwq⟩
      subst h6
      have hVd : decide (truncL av n = bs) = V := by rw [← hV]; simp
      simp only [beq_self_eq_true, Bool.true_and, hVd] at HEQ
      go_enter Tryd.func109, Tryd.ntmps109
      go_wp2_with fail
      refine wp_region_quietA ((w.alloc (.cells cs.toArray 59)).alloc (.cells vs.toArray 57)) (by kernel_rfl) (by kernel_rfl) (Ch.refl _ _) ?_
      repeat (first
        | (go_big_quiet_want; refine quiet_rowA 59 _ rfl w.heap.size 0 rfl cs _ HRP.out Tryd.underlying59 rfl HIP.out ?_; simp only [Act.put, List.setIfInBounds_toArray, List.set_cons_succ, List.set_cons_zero]; go_big_quiet_on)
        | (go_big_quiet_want; refine quiet_rowA 57 _ rfl w.heap.size 0 rfl (addrC six bs) _ HRB.out Tryd.underlying57 rfl HI.out ?_; simp only [Act.put, List.setIfInBounds_toArray, List.set_cons_succ, List.set_cons_zero]; go_big_quiet_on)
        | (go_big_quiet_want; refine quiet_rowA 57 _ rfl (w.heap.size + 1) 0 rfl vs _ HRV.out Tryd.underlying57 rfl HIV.out ?_; simp only [Act.put, List.setIfInBounds_toArray, List.set_cons_succ, List.set_cons_zero]; go_big_quiet_on)
        | go_big_quiet_step (first
          | (go_at_call 36; exact after_of (HVP.out _))
          | (go_at_call 57; exact after_of (HVA.out _))
          | (go_at_call 59; exact after_of (HT.out _))))
      refine wpQuiet_nil ?_
      intro wq hwq
      go_wp2_with fail
      go_ret
      exact ⟨rfl, hC0.trans hwq⟩
end Go.Proofs.YtbmbnibamhgfmaaDoor
