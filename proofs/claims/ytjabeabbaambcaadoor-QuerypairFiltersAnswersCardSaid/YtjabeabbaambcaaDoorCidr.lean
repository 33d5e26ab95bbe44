/- cidr.truncate: an address with its first bits alone. -/
import Derived.Test.YtjabeabbaambcaaDoorRVal
import Derived.Test.YtjabeabbaambcaaDoorPfxS
import Derived.Test.YtjabeabbaambcaaDoorGenA
import Derived.Test.YtjabeabbaambcaaDoorMinMax
import Derived.Test.YtjabeabbaambcaaDoorStages3
namespace Go.Proofs.YtjabeabbaambcaaDoor
open Go.RowKit

theorem fill_set (xs zs : List Int) (k : Nat) (hx : k < xs.length) (hz : k < zs.length) : (xs.take k ++ zs.drop k).set k (at_ xs k) = xs.take (k + 1) ++ zs.drop (k + 1) := by
  have h1 : (xs.take k).length = k := by rw [List.length_take]; omega
  rw [List.set_append_right _ _ (by omega), h1, Nat.sub_self, List.drop_eq_getElem_cons hz, List.set_cons_zero, List.take_succ_eq_append_getElem hx, List.append_assoc]
  simp [at_, List.getD, hx]
theorem fill_at (xs zs : List Int) (k : Nat) (hx : k ≤ xs.length) (hk : k < zs.length) : at_ (xs.take k ++ zs.drop k) k = at_ zs k := by
  simp [at_, List.getD, List.getElem?_append, hx, hk]
theorem addr_set (six : Bool) (bs : List Int) (k : Nat) (v : Int) : (addrC six bs).set (1 + k) (.int .u8 v) = addrC six (bs.set k v) := by
  unfold addrC
  rw [Nat.add_comm, List.set_cons_succ, ← List.map_set]
theorem addr_len {six : Bool} {bs : List Int} (h : bs.length = 16) : (addrC six bs).length = 17 := by unfold addrC; rw [List.length_cons, List.length_map, h]
theorem addr_inf {six : Bool} {bs : List Int} (h : bs.length = 16) : (Tryd.prog.info? 29).map (·.size) = some (addrC six bs).length := by rw [addr_len h]; exact addr_info
theorem addr_one' (six : Bool) (bs : List Int) : (addrC six bs).all (·.oneCell') = true := List.all_eq_true.2 (addr_one six bs)
def GoodA (bs : List Int) : Prop := bs.length = 16 ∧ ∀ x ∈ bs, 0 ≤ x ∧ x ≤ 255
theorem GoodA.at {bs : List Int} (h : GoodA bs) {i : Nat} (hi : i < 16) : 0 ≤ at_ bs i ∧ at_ bs i ≤ 255 := h.2 _ (by simp [at_, List.getD, show i < bs.length from by rw [h.1]; exact hi])
theorem cut_rng {b : Int} (hb : 0 ≤ b ∧ b ≤ 255) (k : Nat) (hk : k ≤ 8) : 0 ≤ cutB b k ∧ cutB b k ≤ 255 := by
  have hall : ∀ b : Fin 256, ∀ k : Fin 9, 0 ≤ cutB b.val k.val ∧ cutB b.val k.val ≤ 255 := by decide +kernel
  obtain ⟨n, rfl⟩ := Int.eq_ofNat_of_zero_le hb.1
  exact hall ⟨n, by omega⟩ ⟨k, by omega⟩
theorem trunc_good {bs : List Int} (h : GoodA bs) (n : Int) : GoodA (truncL bs n) := by
  refine ⟨by rw [trunc_len]; exact h.1, fun x hx => ?_⟩
  obtain ⟨i, hi, rfl⟩ := List.mem_iff_getElem.1 hx
  rw [trunc_len, h.1] at hi
  have h2 := trunc_at bs n i (by rw [h.1]; exact hi)
  have h3 : at_ (truncL bs n) i = (truncL bs n)[i] := by simp [at_, List.getD, trunc_len, h.1, hi]
  rw [← h3, h2]
  exact cut_rng (h.at hi) _ (keep_le _ _)

set_option maxRecDepth 20000 in
set_option maxHeartbeats 4000000 in
theorem truncP (six : Bool) (bs : List Int) (hg : GoodA bs) (n : Int) (h0 : 0 ≤ n) (h1 : n ≤ 128) (w : World) :
    Calls Tryd.prog 91 #[.agg (addrC six bs).toArray, .int .i64 n] w fun e w' => e = .returned (.agg (addrC six (truncL bs n)).toArray) ∧ Ch [] w w' := by
  have hl := hg.1
  have hB : Blk (w.alloc (.cells (addrC six bs).toArray 29)) w.heap.size 29 (addrC six bs) := Blk.new w _ _
  have hC : Ch [] w (w.alloc (.cells (addrC six bs).toArray 29)) := (Ch.refl _ _).alloc _
  have HBV := hid (fun k (hk : k < 16) => hg.at hk)
  have HT := hid (trunc_len bs n)
  have HTA := hid (trunc_at bs n)
  obtain ⟨g, hgs⟩ : ∃ g, w.heap.size = g := ⟨_, rfl⟩
  have hB2 : Blk ((w.alloc (.cells (addrC six bs).toArray 29)).alloc (.cells (addrC false zeros).toArray 29)) (g + 1) 29 (addrC false zeros) := Blk.newAt _ _ _ (by simp [hgs])
  rw [hgs] at hB
  have hB1 := hB.alloc (.cells (addrC false zeros).toArray 29)
  have hC1 := hC.alloc (.cells (addrC false zeros).toArray 29)
  go_enter Tryd.func91, Tryd.ntmps91
  go_wp2_with fail
  go_loopw [7] (fun i wr => ∃ k : Nat, k ≤ 16 ∧ i = .int .i64 k ∧ Blk wr g 29 (addrC six ((truncL bs n).take k ++ bs.drop k)) ∧ Blk wr (g + 1) 29 (addrC false zeros) ∧ Ch [] w wr) (fun i _ => 16 - (intOf i).toNat)
  case atStart => exact ⟨0, by omega, rfl, (by show Blk _ _ _ (addrC six ((truncL bs n).take 0 ++ bs.drop 0)); simp only [List.take_zero, List.drop_zero, List.nil_append]; exact hB1), hB2, hC1⟩
  case round =>
    clear hB hC hB1 hB2 hC1
    obtain ⟨k, hk, rfl, B1, B2, CC⟩ := hrel
    have hgl := B1.lt
    by_cases hlt : k < 16
    · have hfa := fill_at (truncL bs n) bs k (by rw [HT.out]; omega) (by omega)
      have hfs := fill_set (truncL bs n) bs k (by rw [HT.out]; omega) (by omega)
      rw [HTA.out k (by omega)] at hfs
      have hc : wr.cell? ⟨g, 1 + k, none⟩ = some (.int .u8 (at_ bs k)) := by
        rw [B1.cell, addrC_byte (by rw [List.length_append, List.length_take, List.length_drop, HT.out]; omega), hfa]
      have hf : wr.frozen? ⟨g, 1 + k, none⟩ = false := B1.frozen _
      obtain ⟨x0, x1⟩ := HBV.out k hlt
      have hkp : keepB n k = (max 0 (min (n - 8 * k) 8)).toNat := rfl
      obtain ⟨K, hK⟩ : ∃ K, keepB n k = K := ⟨_, rfl⟩
      have hand := and_mask (at_ bs k) ⟨x0, x1⟩ K (by have := keep_le n k; omega)
      rw [hK] at hfs hkp
      have HSET : Hid (∀ m m', Blk (((wr.drewN m).setCell ⟨g, 1 + k, none⟩ (.int .u8 (cutB (at_ bs k) K))).drewN m') g 29 (addrC six ((truncL bs n).take (k + 1) ++ bs.drop (k + 1)))) := by
        intro m m'
        rw [← hfs, ← addr_set]
        exact ((B1.drewN m).set _ _).drewN m'
      have HSET2 : Hid (∀ m m', Blk (((wr.drewN m).setCell ⟨g, 1 + k, none⟩ (.int .u8 (cutB (at_ bs k) K))).drewN m') (g + 1) 29 (addrC false zeros)) := fun m m' => ((B2.drewN m).far (p := ⟨g, 1 + k, none⟩) (by simp) _).drewN m'
      have HSETC : Hid (∀ m m', Ch [] w (((wr.drewN m).setCell ⟨g, 1 + k, none⟩ (.int .u8 (cutB (at_ bs k) K))).drewN m')) := fun m m' => ((CC.drewN m).setCell (p := ⟨g, 1 + k, none⟩) (.inr (by show _ ≤ g; omega)) (.int .u8 (cutB (at_ bs k) K))).drewN m'
      obtain ⟨cv, hcv⟩ : ∃ cv, cutB (at_ bs k) K = cv := ⟨_, rfl⟩
      rw [hcv] at hand HSET HSET2 HSETC
      obtain ⟨r1, hr1⟩ : ∃ r1, min (n - 8 * (k : Int)) 8 = r1 := ⟨_, rfl⟩
      have hr2 : max 0 r1 = (K : Int) := by omega
      have hK8 : K ≤ 8 := by omega
      clear hfs hcv hkp hK hfa
      generalize at_ bs k = x at hc hand x0 x1
      rcases (show K = 0 ∨ K = 1 ∨ K = 2 ∨ K = 3 ∨ K = 4 ∨ K = 5 ∨ K = 6 ∨ K = 7 ∨ K = 8 by omega) with rfl | rfl | rfl | rfl | rfl | rfl | rfl | rfl | rfl
      all_goals
        simp only [maskB, Nat.reduceSub, Int.reducePow, Int.reduceSub] at hand
        go_wp2_with (first
          | (refine wpList_min rfl _ _ _ rfl _ _ _ _ _ rfl rfl hr1 ?_)
          | (refine wpList_max rfl _ _ _ rfl _ _ _ _ _ rfl rfl hr2 ?_))
        refine wp_region_stagesM [⟨0, 32, 65536⟩, ⟨0, 4, 131072⟩, ⟨3, 196608, 262144⟩, ⟨4, 262144, 524288⟩, ⟨0, 64, 1048576⟩, ⟨16, 1048576, 2097152⟩, ⟨32, 2097152, 4194304⟩, ⟨72, 4718592, 8388608⟩, ⟨0, 4, 16777216⟩, ⟨511, 16842752, 33554432⟩, ⟨767, 41943040, 0⟩] [([0, 1, 2, 3, 4, 5, 6, 7, 8, 9], 10, [])] [] (by kernel_rfl) (by kernel_rfl) ?_
        refine wpStages_step ?_
        simp only [pick, List.map_cons, List.map_nil, List.getD_cons_zero, List.getD_cons_succ]
        repeat (go_big_quiet_step (fail))
        refine wpQuiet_nil ?_
        intro n0
        simp only [pick, List.map_cons, List.map_nil, List.getD_cons_zero, List.getD_cons_succ]
        go_wp2_with fail
        refine stagePost_mk ?_ ?_
        · intro o ho; simp [pick] at ho
        refine wpStages_last ?_
        simp only [pick, List.map_nil]
        refine wpQuiet_nil ?_
        intro n1
        go_wp2_with fail
        go_roundw
        case rel => exact ⟨k + 1, by omega, by go_num, HSET.out _ _, HSET2.out _ _, HSETC.out _ _⟩
        case measure => simp [intOf]; omega
    · obtain rfl : k = 16 := by omega
      have hfull : (truncL bs n).take 16 ++ bs.drop 16 = truncL bs n := by
        rw [List.drop_eq_nil_of_le (by omega), List.append_nil, List.take_of_length_le (by rw [HT.out]; omega)]
      rw [hfull] at B1
      have HI := hid (addr_inf (six := six) (bs := truncL bs n) (by rw [HT.out]; exact hl))
      go_wp2_with (first
        | (refine wpList_loadB rfl 29 _ rfl g 29 (addrC six (truncL bs n)) _ rfl B1 Tryd.underlying29 rfl HI.out ?_)
        | (refine wpList_storeB rfl 29 _ _ rfl (g + 1) 29 (addrC false zeros) (addrC six (truncL bs n)) rfl rfl B2 HI.out ((addr_len (six := false) (bs := zeros) rfl).trans (addr_len (HT.out.trans hl)).symm) (addr_one' _ _) ?_; intro w5 B5 C5 Z5))
      try simp only [Exit.inBlock, Exit.then]
      refine bodyPost_ret (results_row1 rfl _ _ rfl B5 Tryd.underlying29 rfl HI.out) rfl ?_
      exact ⟨rfl, CC.step C5 (fun i hi => .inr (by simp at hi; omega))⟩
end Go.Proofs.YtjabeabbaambcaaDoor
