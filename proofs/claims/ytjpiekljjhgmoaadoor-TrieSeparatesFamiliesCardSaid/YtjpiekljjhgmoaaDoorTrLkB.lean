/- trie.Trie[bool]: Lookup, Matches, Len (printed by mk_trie3.py). -/
import Derived.Test.YtjpiekljjhgmoaaDoorTrMaB
import Derived.Test.YtjpiekljjhgmoaaDoorMD
import Derived.Deep.DeepCutAuto
import Derived.Deep.CutRange
namespace Go.Proofs.YtjpiekljjhgmoaaDoor
open Go.RowKit

theorem trLenB (w : World) (g : Nat) (nd : Tri) (n : Int) (hT : TrI 102 98 w g nd n) : Calls Tryd.prog 29 #[.pointer (some ⟨g, 0, none⟩)] w fun e w' => e = .returned (.int .i64 n) ∧ w = w' := by
  have e2 : w.cell? ⟨g, 2, none⟩ = some (.int .i64 n) := hT.root.cell 2
  go_enter Tryd.func29, Tryd.ntmps29
  go_wp2_with fail
  go_ret
  exact ⟨rfl, rfl⟩
set_option maxRecDepth 20000 in
set_option maxHeartbeats 8000000 in
theorem trLkNoneB (w : World) (g : Nat) (nd : Tri) (n : Int) (hT : TrI 102 98 w g nd n) (six : Bool) (bs : List Int) (hg : GoodA bs) (hl : mchL nd six bs = []) :
    Calls Tryd.prog 25 #[.pointer (some ⟨g, 0, none⟩), .agg (addrC six bs).toArray] w fun e w' => e = .returned (.tuple #[.agg #[.bool false, .int .u8 0, .int .u8 0, .int .u8 0, .int .u8 0, .int .u8 0, .int .u8 0, .int .u8 0, .int .u8 0, .int .u8 0, .int .u8 0, .int .u8 0, .int .u8 0, .int .u8 0, .int .u8 0, .int .u8 0, .int .u8 0, .int .i64 0], .bool false, .bool false]) ∧ Ch [] w w' := by
  have B0 : Blk ((w.alloc (.cells (addrC six bs).toArray 24)).alloc (.cells #[.bool false, .int .u8 0, .int .u8 0, .int .u8 0, .int .u8 0, .int .u8 0, .int .u8 0, .int .u8 0, .int .u8 0, .int .u8 0, .int .u8 0, .int .u8 0, .int .u8 0, .int .u8 0, .int .u8 0, .int .u8 0, .int .u8 0, .int .i64 0] 33)) w.heap.size 24 (addrC six bs) := (Blk.new w _ _).alloc _
  have BP : Blk ((w.alloc (.cells (addrC six bs).toArray 24)).alloc (.cells #[.bool false, .int .u8 0, .int .u8 0, .int .u8 0, .int .u8 0, .int .u8 0, .int .u8 0, .int .u8 0, .int .u8 0, .int .u8 0, .int .u8 0, .int .u8 0, .int .u8 0, .int .u8 0, .int .u8 0, .int .u8 0, .int .u8 0, .int .i64 0] 33)) (w.heap.size + 1) 33 (pfxC (false, zeros, 0)) := Blk.newAt _ _ _ (by simp)
  have C0 : Ch [] w ((w.alloc (.cells (addrC six bs).toArray 24)).alloc (.cells #[.bool false, .int .u8 0, .int .u8 0, .int .u8 0, .int .u8 0, .int .u8 0, .int .u8 0, .int .u8 0, .int .u8 0, .int .u8 0, .int .u8 0, .int .u8 0, .int .u8 0, .int .u8 0, .int .u8 0, .int .u8 0, .int .u8 0, .int .i64 0] 33)) := ((Ch.refl _ _).alloc _).alloc _
  have HI := hid (addr_inf (six := six) hg.1)
  have HM := hid (trMatB _ g nd n (hT.nil C0) six bs hg)
  have HIP := hid (pfx_inf (p := (false, zeros, 0)) rfl)
  rw [hl] at HM
  generalize addrC six bs = ac at *
  clear hT hg hl
  go_enter Tryd.func25, Tryd.ntmps25
  go_wp2_with (first
    | (refine wpList_load_want rfl 24 _ rfl w.heap.size 0 rfl ac _ B0.range Tryd.underlying24 rfl HI.out ?_)
    | (refine wpList_storeB rfl 33 _ _ rfl (w.heap.size + 1) 33 (pfxC (false, zeros, 0)) (pfxC (false, zeros, 0)) rfl rfl B1 HIP.out rfl (pfx_one _) ?_; intro w5 B5 C5 Z5)
    | (go_at_call 54; (with_reducible refine (HM.out).mono ?_); rintro e w1 ⟨A, c, rfl, own, C1⟩; simp only [List.length_nil]; have B1 := BP.ch C1 (by simp)))
  try simp only [Exit.inBlock, Exit.then]
  refine bodyPost_ret (results_row3 rfl _ _ rfl B5 Tryd.underlying33 rfl HIP.out) rfl ?_
  exact ⟨rfl, (C0.trans C1).step C5 (fun i hi => .inr (by simp at hi; omega))⟩
set_option maxRecDepth 20000 in
set_option maxHeartbeats 8000000 in
theorem trLkSomeB (w : World) (g : Nat) (nd : Tri) (n : Int) (hT : TrI 102 98 w g nd n) (six : Bool) (bs : List Int) (hg : GoodA bs) (l : List ND) (d : ND) (hl : mchL nd six bs = l ++ [d]) :
    Calls Tryd.prog 25 #[.pointer (some ⟨g, 0, none⟩), .agg (addrC six bs).toArray] w fun e w' => e = .returned (.tuple #[.agg (pfxC d.q).toArray, d.x, .bool true]) ∧ Ch [] w w' := by
  have B0 : Blk ((w.alloc (.cells (addrC six bs).toArray 24)).alloc (.cells #[.bool false, .int .u8 0, .int .u8 0, .int .u8 0, .int .u8 0, .int .u8 0, .int .u8 0, .int .u8 0, .int .u8 0, .int .u8 0, .int .u8 0, .int .u8 0, .int .u8 0, .int .u8 0, .int .u8 0, .int .u8 0, .int .u8 0, .int .i64 0] 33)) w.heap.size 24 (addrC six bs) := (Blk.new w _ _).alloc _
  have BP : Blk ((w.alloc (.cells (addrC six bs).toArray 24)).alloc (.cells #[.bool false, .int .u8 0, .int .u8 0, .int .u8 0, .int .u8 0, .int .u8 0, .int .u8 0, .int .u8 0, .int .u8 0, .int .u8 0, .int .u8 0, .int .u8 0, .int .u8 0, .int .u8 0, .int .u8 0, .int .u8 0, .int .u8 0, .int .i64 0] 33)) (w.heap.size + 1) 33 (pfxC (false, zeros, 0)) := Blk.newAt _ _ _ (by simp)
  have C0 : Ch [] w ((w.alloc (.cells (addrC six bs).toArray 24)).alloc (.cells #[.bool false, .int .u8 0, .int .u8 0, .int .u8 0, .int .u8 0, .int .u8 0, .int .u8 0, .int .u8 0, .int .u8 0, .int .u8 0, .int .u8 0, .int .u8 0, .int .u8 0, .int .u8 0, .int .u8 0, .int .u8 0, .int .u8 0, .int .i64 0] 33)) := ((Ch.refl _ _).alloc _).alloc _
  have HI := hid (addr_inf (six := six) hg.1)
  have HM := hid (trMatB _ g nd n (hT.nil C0) six bs hg)
  obtain ⟨k, _, hnode, _⟩ := mchL_mem (nd := nd) (six := six) (bs := bs) (d := d) (by rw [hl]; simp)
  have hlen := pathL_len nd six bs (bitN six + 1)
  have hlm : (mchL nd six bs).length ≤ bitN six + 1 := by unfold mchL; split <;> simp [hlen]
  have hb : bitN six ≤ 128 := by cases six <;> decide
  have HLB : Hid (d.b < w.heap.size) := (hT.node _ d hnode).lt
  rw [hl] at HM hlm
  obtain ⟨ln, hln⟩ : ∃ ln, l.length = ln := ⟨_, rfl⟩
  have hl2 : (l ++ [d]).length = ln + 1 := by simp [hln]
  rw [hl2] at HM hlm
  have hget : ((l ++ [d]).map ndPtr)[ln]? = some (ndPtr d) := by simp [← hln]
  have HGET := hid hget
  have HB := hid (fun (w' : World) (c : Ch [] w w') => (hT.nil c).node _ d hnode)
  have h16 := hT.l16 hnode
  have HIP := hid (pfx_inf (p := d.q) h16)
  have HLP : Hid ((pfxC (false, zeros, 0)).length = (pfxC d.q).length) := by show _ = _; rw [pfx_len h16]; rfl
  have h19 : (nodeC d (nd (keyA six bs k ++ [false])) (nd (keyA six bs k ++ [true])))[19]? = some d.x := nodeC_at h16 _ _ 1
  generalize addrC six bs = ac at *
  clear hT hg hl hlen hnode hl2 hget hln
  go_enter Tryd.func25, Tryd.ntmps25
  go_upto_region 2 with (first
    | (refine wpList_load_want rfl 24 _ rfl w.heap.size 0 rfl ac _ B0.range Tryd.underlying24 rfl HI.out ?_)
    | (go_at_call 54; (with_reducible refine (HM.out).mono ?_); rintro e w1 ⟨A, c, rfl, own, C1⟩))
  obtain ⟨b1, o1, v1, rfl, hb1, hv1, hc1⟩ := own.rd.at_ (k := ln) (by omega)
  rw [HGET.out] at hv1
  obtain rfl := Option.some.inj hv1
  replace hc1 : w1.cell? ⟨b1, o1 + ln, none⟩ = some (.pointer (some ⟨d.b, 0, none⟩)) := hc1
  have CC := C0.trans C1
  have BN := HB.out w1 CC
  have B1 := BP.ch C1 (by simp)
  have e19 : w1.cell? ⟨d.b, 19, none⟩ = some d.x := (BN.cell 19).trans h19
  go_upto_region 6 with fail
  refine wp_region_stagesM [⟨0, 512, 16777216⟩, ⟨1, 16777216, 33554432⟩, ⟨2, 33554432, 67108864⟩, ⟨4, 67108864, 134217728⟩, ⟨0, 512, 268435456⟩, ⟨16, 268435456, 536870912⟩, ⟨32, 536870912, 1073741824⟩, ⟨64, 1073741824, 2147483648⟩, ⟨15, 134217744, 0⟩, ⟨511, 2147483648, 32⟩, ⟨1023, 0, 64⟩] [([0, 1, 2, 3, 4, 5, 6, 7], 8, [4, 5, 6, 7])] [9, 10] (by kernel_rfl) (by kernel_rfl) ?_
  refine wpStages_step ?_
  simp only [pick, List.map_cons, List.map_nil, List.getD_cons_zero, List.getD_cons_succ]
  repeat (first
    | (refine wpQuiet_row rfl 33 _ rfl d.b 0 rfl (pfxC d.q) _ (fun w' ⟨q, hq⟩ => hq ▸ ((BN.drewN q).rangeMid 0 _ (nodeC_pfx _ _))) Tryd.underlying33 rfl HIP.out ?_; simp only [Act.put, List.setIfInBounds_toArray, List.set_cons_succ, List.set_cons_zero])
    | go_big_quiet_step (fail))
  refine wpQuiet_nil ?_
  intro n0
  simp only [pick, List.map_cons, List.map_nil, List.getD_cons_zero, List.getD_cons_succ]
  go_wp2_with (refine wpList_storeB rfl 33 _ _ rfl (w.heap.size + 1) 33 (pfxC (false, zeros, 0)) (pfxC d.q) rfl rfl (B1.drewN n0) HIP.out HLP.out (pfx_one _) ?_; intro w5 B5 C5 Z5)
  refine stagePost_mk ?_ ?_
  · intro o ho
    simp only [pick, List.map_cons, List.map_nil, List.getD_cons_zero, List.getD_cons_succ, List.mem_cons, List.not_mem_nil, or_false] at ho
    have e19' : w5.cell? ⟨d.b, 19, none⟩ = some d.x := by
      have := (C5.cell (p := ⟨d.b, 19, none⟩) (by have := BN.lt; exact this) (by simp only [List.mem_singleton]; have := HLB.out; omega)).trans e19
      exact this
    rcases ho with rfl | rfl | rfl | rfl
    all_goals
      refine float_any ?_
      repeat (go_big_quiet_step (fail))
      refine wpQuiet_nil ?_
      rfl
  refine wpStages_last ?_
  simp only [pick, List.map_cons, List.map_nil, List.getD_cons_zero, List.getD_cons_succ]
  repeat (go_big_quiet_step (fail))
  refine wpQuiet_nil ?_
  intro n1
  go_wp2_with fail
  try simp only [Exit.inBlock, Exit.then]
  refine bodyPost_ret (results_row3 rfl _ _ rfl (B5.drewN n1) Tryd.underlying33 rfl HIP.out) rfl ?_
  exact ⟨rfl, ((CC.drewN n0).step C5 (fun i hi => .inr (by simp at hi; omega))).drewN n1⟩
end Go.Proofs.YtjpiekljjhgmoaaDoor
