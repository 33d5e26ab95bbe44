/- trie.Trie[string]: Lookup, Matches, Len (printed by mk_trie3.py). -/
import Derived.Test.YtjpiekljjhgmoaaDoorTrMaS
import Derived.Test.YtjpiekljjhgmoaaDoorMD
import Derived.Deep.DeepCutAuto
import Derived.Deep.CutRange
namespace Go.Proofs.YtjpiekljjhgmoaaDoor
open Go.RowKit

theorem trLenS (w : World) (g : Nat) (nd : Tri) (n : Int) (hT : TrI 124 115 w g nd n) : Calls Tryd.prog 47 #[.pointer (some ⟨g, 0, none⟩)] w fun e w' => e = .returned (.int .i64 n) ∧ w = w' := by
  have e2 : w.cell? ⟨g, 2, none⟩ = some (.int .i64 n) := hT.root.cell 2
  go_enter Tryd.func47, Tryd.ntmps47
  go_wp2_with fail
  go_ret
  exact ⟨rfl, rfl⟩
set_option maxRecDepth 20000 in
set_option maxHeartbeats 8000000 in
theorem trLkNoneS (w : World) (g : Nat) (nd : Tri) (n : Int) (hT : TrI 124 115 w g nd n) (six : Bool) (bs : List Int) (hg : GoodA bs) (hl : mchL nd six bs = []) :
    Calls Tryd.prog 45 #[.pointer (some ⟨g, 0, none⟩), .agg (addrC six bs).toArray] w fun e w' => e = .returned (.tuple #[.agg #[.bool false, .int .u8 0, .int .u8 0, .int .u8 0, .int .u8 0, .int .u8 0, .int .u8 0, .int .u8 0, .int .u8 0, .int .u8 0, .int .u8 0, .int .u8 0, .int .u8 0, .int .u8 0, .int .u8 0, .int .u8 0, .int .u8 0, .int .i64 0], .string ⟨#[]⟩, .bool false]) ∧ Ch [] w w' := by
  have B0 : Blk ((w.alloc (.cells (addrC six bs).toArray 24)).alloc (.cells #[.bool false, .int .u8 0, .int .u8 0, .int .u8 0, .int .u8 0, .int .u8 0, .int .u8 0, .int .u8 0, .int .u8 0, .int .u8 0, .int .u8 0, .int .u8 0, .int .u8 0, .int .u8 0, .int .u8 0, .int .u8 0, .int .u8 0, .int .i64 0] 33)) w.heap.size 24 (addrC six bs) := (Blk.new w _ _).alloc _
  have BP : Blk ((w.alloc (.cells (addrC six bs).toArray 24)).alloc (.cells #[.bool false, .int .u8 0, .int .u8 0, .int .u8 0, .int .u8 0, .int .u8 0, .int .u8 0, .int .u8 0, .int .u8 0, .int .u8 0, .int .u8 0, .int .u8 0, .int .u8 0, .int .u8 0, .int .u8 0, .int .u8 0, .int .u8 0, .int .i64 0] 33)) (w.heap.size + 1) 33 (pfxC (false, zeros, 0)) := Blk.newAt _ _ _ (by simp)
  have C0 : Ch [] w ((w.alloc (.cells (addrC six bs).toArray 24)).alloc (.cells #[.bool false, .int .u8 0, .int .u8 0, .int .u8 0, .int .u8 0, .int .u8 0, .int .u8 0, .int .u8 0, .int .u8 0, .int .u8 0, .int .u8 0, .int .u8 0, .int .u8 0, .int .u8 0, .int .u8 0, .int .u8 0, .int .u8 0, .int .i64 0] 33)) := ((Ch.refl _ _).alloc _).alloc _
  have HI := hid (addr_inf (six := six) hg.1)
  have HM := hid (trMatS _ g nd n (hT.nil C0) six bs hg)
  have HIP := hid (pfx_inf (p := (false, zeros, 0)) rfl)
  rw [hl] at HM
  generalize addrC six bs = ac at *
  clear hT hg hl
  go_enter Tryd.func45, Tryd.ntmps45
  go_wp2_with (first
    | (refine wpList_load_want rfl 24 _ rfl w.heap.size 0 rfl ac _ B0.range Tryd.underlying24 rfl HI.out ?_)
    | (refine wpList_storeB rfl 33 _ _ rfl (w.heap.size + 1) 33 (pfxC (false, zeros, 0)) (pfxC (false, zeros, 0)) rfl rfl B1 HIP.out rfl (pfx_one _) ?_; intro w5 B5 C5 Z5)
    | (go_at_call 68; (with_reducible refine (HM.out).mono ?_); rintro e w1 ⟨A, c, rfl, own, C1⟩; simp only [List.length_nil]; have B1 := BP.ch C1 (by simp)))
  try simp only [Exit.inBlock, Exit.then]
  refine bodyPost_ret (results_row3 rfl _ _ rfl B5 Tryd.underlying33 rfl HIP.out) rfl ?_
  exact ⟨rfl, (C0.trans C1).step C5 (fun i hi => .inr (by simp at hi; omega))⟩
set_option maxRecDepth 20000 in
set_option maxHeartbeats 8000000 in
theorem trLkSomeS (w : World) (g : Nat) (nd : Tri) (n : Int) (hT : TrI 124 115 w g nd n) (six : Bool) (bs : List Int) (hg : GoodA bs) (l : List ND) (d : ND) (hl : mchL nd six bs = l ++ [d]) :
    Calls Tryd.prog 45 #[.pointer (some ⟨g, 0, none⟩), .agg (addrC six bs).toArray] w fun e w' => e = .returned (.tuple #[.agg (pfxC d.q).toArray, d.x, .bool true]) ∧ Ch [] w w' := by
  have B0 : Blk ((w.alloc (.cells (addrC six bs).toArray 24)).alloc (.cells #[.bool false, .int .u8 0, .int .u8 0, .int .u8 0, .int .u8 0, .int .u8 0, .int .u8 0, .int .u8 0, .int .u8 0, .int .u8 0, .int .u8 0, .int .u8 0, .int .u8 0, .int .u8 0, .int .u8 0, .int .u8 0, .int .u8 0, .int .i64 0] 33)) w.heap.size 24 (addrC six bs) := (Blk.new w _ _).alloc _
  have BP : Blk ((w.alloc (.cells (addrC six bs).toArray 24)).alloc (.cells #[.bool false, .int .u8 0, .int .u8 0, .int .u8 0, .int .u8 0, .int .u8 0, .int .u8 0, .int .u8 0, .int .u8 0, .int .u8 0, .int .u8 0, .int .u8 0, .int .u8 0, .int .u8 0, .int .u8 0, .int .u8 0, .int .u8 0, .int .i64 0] 33)) (w.heap.size + 1) 33 (pfxC (false, zeros, 0)) := Blk.newAt _ _ _ (by simp)
  have C0 : Ch [] w ((w.alloc (.cells (addrC six bs).toArray 24)).alloc (.cells #[.bool false, .int .u8 0, .int .u8 0, .int .u8 0, .int .u8 0, .int .u8 0, .int .u8 0, .int .u8 0, .int .u8 0, .int .u8 0, .int .u8 0, .int .u8 0, .int .u8 0, .int .u8 0, .int .u8 0, .int .u8 0, .int .u8 0, .int .i64 0] 33)) := ((Ch.refl _ _).alloc _).alloc _
  have HI := hid (addr_inf (six := six) hg.1)
  have HM := hid (trMatS _ g nd n (hT.nil C0) six bs hg)
  obtain ⟨k, _, hnode, _⟩ := mchL_mem (nd := nd) (six := six) (bs := bs) (d := d) (by rw [hl]; simp)
  have hlen := pathL_len nd six bs (bitN six + 1)
  have hlm : (mchL nd six bs).length ≤ bitN six + 1 := by unfold mchL; split <;> simp [hlen]
  have hb : bitN six ≤ 128 := by cases six <;> decide
  have HLB : Hid (d.b < w.heap.size) := (hT.node _ d hnode).lt
  rw [hl] at HM hlm
  obtain ⟨ln, hln⟩ : ∃ ln, l.length = ln := ⟨_, rfl⟩
  have hl2 : (l ++ [d]).length = ln + 1 := by simp [hln]
  rw [hl2] at HM hlm
  have hget : ((l ++ [d]).map ndPtr)[ln]? = some (ndPtr d) := by simp [← hln]
  have HGET := hid hget
  have HB := hid (fun (w' : World) (c : Ch [] w w') => (hT.nil c).node _ d hnode)
  have h16 := hT.l16 hnode
  have HIP := hid (pfx_inf (p := d.q) h16)
  have HLP : Hid ((pfxC (false, zeros, 0)).length = (pfxC d.q).length) := by show _ = _; rw [pfx_len h16]; rfl
  have h19 : (nodeC d (nd (keyA six bs k ++ [false])) (nd (keyA six bs k ++ [true])))[19]? = some d.x := nodeC_at h16 _ _ 1
  generalize addrC six bs = ac at *
  clear hT hg hl hlen hnode hl2 hget hln
  go_enter Tryd.func45, Tryd.ntmps45
  go_upto_region 2 with (first
    | (refine wpList_load_want rfl 24 _ rfl w.heap.size 0 rfl ac _ B0.range Tryd.underlying24 rfl HI.out ?_)
    | (go_at_call 68; (with_reducible refine (HM.out).mono ?_); rintro e w1 ⟨A, c, rfl, own, C1⟩))
  obtain ⟨b1, o1, v1, rfl, hb1, hv1, hc1⟩ := own.rd.at_ (k := ln) (by omega)
  rw [HGET.out] at hv1
  obtain rfl := Option.some.inj hv1
  replace hc1 : w1.cell? ⟨b1, o1 + ln, none⟩ = some (.pointer (some ⟨d.b, 0, none⟩)) := hc1
  have CC := C0.trans C1
  have BN := HB.out w1 CC
  have B1 := BP.ch C1 (by simp)
  have e19 : w1.cell? ⟨d.b, 19, none⟩ = some d.x := (BN.cell 19).trans h19
  go_upto_region 6 with fail
  refine wp_region_stagesM [⟨0, 512, 16777216⟩, ⟨1, 16777216, 33554432⟩, ⟨2, 33554432, 67108864⟩, ⟨4, 67108864, 134217728⟩, ⟨0, 512, 268435456⟩, ⟨16, 268435456, 536870912⟩, ⟨32, 536870912, 1073741824⟩, ⟨64, 1073741824, 2147483648⟩, ⟨15, 134217744, 0⟩, ⟨511, 2147483648, 32⟩, ⟨1023, 0, 64⟩] [([0, 1, 2, 3, 4, 5, 6, 7], 8, [4, 5, 6, 7])] [9, 10] (by kernel_rfl) (by kernel_rfl) ?_
  refine wpStages_step ?_
  simp only [pick, List.map_cons, List.map_nil, List.getD_cons_zero, List.getD_cons_succ]
  repeat (first
    | (refine wpQuiet_row rfl 33 _ rfl d.b 0 rfl (pfxC d.q) _ (fun w' ⟨q, hq⟩ => hq ▸ ((BN.drewN q).rangeMid 0 _ (nodeC_pfx _ _))) Tryd.underlying33 rfl HIP.out ?_; simp only [Act.put, List.setIfInBounds_toArray, List.set_cons_succ, List.set_cons_zero])
    | go_big_quiet_step (fail))
  refine wpQuiet_nil ?_
  intro n0
  simp only [pick, List.map_cons, List.map_nil, List.getD_cons_zero, List.getD_cons_succ]
  go_wp2_with (refine wpList_storeB rfl 33 _ _ rfl (w.heap.size + 1) 33 (pfxC (false, zeros, 0)) (pfxC d.q) rfl rfl (B1.drewN n0) HIP.out HLP.out (pfx_one _) ?_; intro w5 B5 C5 Z5)
  refine stagePost_mk ?_ ?_
  · intro o ho
    simp only [pick, List.map_cons, List.map_nil, List.getD_cons_zero, List.getD_cons_succ, List.mem_cons, List.not_mem_nil, or_false] at ho
    have e19' : w5.cell? ⟨d.b, 19, none⟩ = some d.x := by
      have := (C5.cell (p := ⟨d.b, 19, none⟩) (by have := BN.lt; exact this) (by simp only [List.mem_singleton]; have := HLB.out; omega)).trans e19
      exact this
    rcases ho with rfl | rfl | rfl | rfl
    all_goals
      refine float_any ?_
      repeat (go_big_quiet_step (fail))
      refine wpQuiet_nil ?_
      rfl
  refine wpStages_last ?_
  simp only [pick, List.map_cons, List.map_nil, List.getD_cons_zero, List.getD_cons_succ]
  repeat (go_big_quiet_step (fail))
  refine wpQuiet_nil ?_
  intro n1
  go_wp2_with fail
  try simp only [Exit.inBlock, Exit.then]
  refine bodyPost_ret (results_row3 rfl _ _ rfl (B5.drewN n1) Tryd.underlying33 rfl HIP.out) rfl ?_
  exact ⟨rfl, ((CC.drewN n0).step C5 (fun i hi => .inr (by simp at hi; omega))).drewN n1⟩
set_option maxRecDepth 20000 in
set_option maxHeartbeats 8000000 in
theorem trMtsS (w : World) (g : Nat) (nd : Tri) (n : Int) (hT : TrI 124 115 w g nd n) (six : Bool) (bs : List Int) (hg : GoodA bs) :
    Calls Tryd.prog 48 #[.pointer (some ⟨g, 0, none⟩), .agg (addrC six bs).toArray] w fun e w' => ∃ A c, e = .returned (.slice A (mchL nd six bs).length c) ∧ Own w' w.heap.size 33 18 A (mchL nd six bs).length c ((mchL nd six bs).flatMap fun d => pfxC d.q) ∧ Ch [] w w' := by
  have B0 : Blk (w.alloc (.cells (addrC six bs).toArray 24)) w.heap.size 24 (addrC six bs) := Blk.new w _ _
  have C0 : Ch [] w (w.alloc (.cells (addrC six bs).toArray 24)) := (Ch.refl _ _).alloc _
  have HI := hid (addr_inf (six := six) hg.1)
  have HM := hid (trMatS _ g nd n (hT.nil C0) six bs hg)
  have HMEM : Hid (∀ d ∈ mchL nd six bs, d.q.2.1.length = 16 ∧ ∃ κ, nd κ = some d) := fun d hd => by
    obtain ⟨k, _, hn, _⟩ := mchL_mem hd
    exact ⟨hT.l16 hn, _, hn⟩
  have hlen := pathL_len nd six bs (bitN six + 1)
  have hlm : (mchL nd six bs).length ≤ bitN six + 1 := by unfold mchL; split <;> simp [hlen]
  have hb : bitN six ≤ 128 := by cases six <;> decide
  have HT := hid (fun (w' : World) (c : Ch [] w w') => hT.nil c)
  obtain ⟨N, hN⟩ : ∃ N, (mchL nd six bs).length = N := ⟨_, rfl⟩
  rw [hN] at HM hlm ⊢
  generalize mchL nd six bs = LL at HM HMEM hN ⊢
  have HLN := hid hN
  generalize addrC six bs = ac at *
  clear hT hg hlen hN
  go_enter Tryd.func48, Tryd.ntmps48
  go_wp2_with (first
    | (refine wpList_load_want rfl 24 _ rfl w.heap.size 0 rfl ac _ B0.range Tryd.underlying24 rfl HI.out ?_)
    | (go_at_call 68; (with_reducible refine (HM.out).mono ?_); rintro e w1 ⟨A, c, rfl, own, C1⟩))
  have CC := C0.trans C1
  go_loopw [5, 12] (fun l_ i wr => ∃ (j : Nat) (A2 : Option Addr) (c2 : Nat), l_ = .slice A2 j c2 ∧ i = .int .i64 j ∧ j ≤ N ∧ Own wr w1.heap.size 33 18 A2 j c2 ((LL.take j).flatMap fun d => pfxC d.q) ∧ Ch [] w1 wr) (fun _ i _ => N - (intOf i).toNat)
  case atStart => exact ⟨0, none, 0, rfl, rfl, by omega, Own.nil _ _ _ _, Ch.refl _ _⟩
  case round =>
    obtain ⟨j, A2, c2, rfl, rfl, hj, own2, CX⟩ := hrel
    by_cases hlt : j < N
    · obtain ⟨b1, o1, v1, rfl, hb1, hv1, hc1⟩ := own.rd.at_ hlt
      obtain ⟨d, hd⟩ : ∃ d, LL[j]? = some d := ⟨_, List.getElem?_eq_getElem (by rw [HLN.out]; exact hlt)⟩
      rw [List.getElem?_map, hd] at hv1
      obtain rfl := Option.some.inj hv1
      have hc2 : wr.cell? ⟨b1, o1 + j, none⟩ = some (.pointer (some ⟨d.b, 0, none⟩)) := (CX.cell (p := ⟨b1, o1 + j, none⟩) hb1 (by simp)).trans hc1
      obtain ⟨h16, κ, hκ⟩ := HMEM.out d (List.mem_of_getElem? hd)
      have BN := (HT.out wr (CC.trans CX)).node κ d hκ
      have HTK : Hid (LL.take (j + 1) = LL.take j ++ [d]) := take_one hd
      obtain ⟨bd, ⟨qs, qb, qn⟩, pr, x⟩ := d
      obtain ⟨y0, y1, y2, y3, y4, y5, y6, y7, y8, y9, y10, y11, y12, y13, y14, y15, rfl⟩ := len16 h16
      have HRN : Hid (wr.rangeAt bd 0 [.bool qs, .int .u8 y0, .int .u8 y1, .int .u8 y2, .int .u8 y3, .int .u8 y4, .int .u8 y5, .int .u8 y6, .int .u8 y7, .int .u8 y8, .int .u8 y9, .int .u8 y10, .int .u8 y11, .int .u8 y12, .int .u8 y13, .int .u8 y14, .int .u8 y15, .int .i64 qn]) := BN.rangeMid 0 _ (nodeC_pfx (d := ⟨bd, (qs, [y0, y1, y2, y3, y4, y5, y6, y7, y8, y9, y10, y11, y12, y13, y14, y15], qn), pr, x⟩) _ _)
      have HIP : Hid ((Tryd.prog.info? 33).map (·.size) = some (List.length ([.bool qs, .int .u8 y0, .int .u8 y1, .int .u8 y2, .int .u8 y3, .int .u8 y4, .int .u8 y5, .int .u8 y6, .int .u8 y7, .int .u8 y8, .int .u8 y9, .int .u8 y10, .int .u8 y11, .int .u8 y12, .int .u8 y13, .int .u8 y14, .int .u8 y15, .int .i64 qn] : List Value))) := pfx_inf (p := (qs, [y0, y1, y2, y3, y4, y5, y6, y7, y8, y9, y10, y11, y12, y13, y14, y15], qn)) rfl
      have hi0 : (0 : Int) ≤ j := by omega
      have hi1 : (j : Int) < N := by omega
      have szx := CX.size
      simp only at hc2
      clear hd hv1 hc1 BN h16 hκ
      go_wp2_with (first
        | (at_builtin; (refine wpList_app _ rfl (.tmp 16) (.tmp 21) _ rfl w1.heap.size 33 _ 18 32 Tryd.underlying41 pfx_infoZ rfl (by omega) _ _ _ _ rfl (own2.alloc _) _ _ _ _ (pfxC (qs, [y0, y1, y2, y3, y4, y5, y6, y7, y8, y9, y10, y11, y12, y13, y14, y15], qn)) rfl (Rd.new wr 18 (pfxC (qs, [y0, y1, y2, y3, y4, y5, y6, y7, y8, y9, y10, y11, y12, y13, y14, y15], qn)) 1 rfl _) (List.all_eq_true.1 (pfx_one _)) (by unfold maxLen; omega) (by omega) (by simp only [World.size_alloc]; omega) ?_; intro A4 c4 w4 own4 ch4 at4))
        | (refine wpList_buildRows rfl 41 33 1 _ rfl [.bool qs, .int .u8 y0, .int .u8 y1, .int .u8 y2, .int .u8 y3, .int .u8 y4, .int .u8 y5, .int .u8 y6, .int .u8 y7, .int .u8 y8, .int .u8 y9, .int .u8 y10, .int .u8 y11, .int .u8 y12, .int .u8 y13, .int .u8 y14, .int .u8 y15, .int .i64 qn] _ 18 _ Tryd.underlying41 pfx_infoZ (by decide) (by decide) (by kernel_rfl) ?_)
        | (refine wpList_load_want rfl 33 _ rfl bd 0 rfl [.bool qs, .int .u8 y0, .int .u8 y1, .int .u8 y2, .int .u8 y3, .int .u8 y4, .int .u8 y5, .int .u8 y6, .int .u8 y7, .int .u8 y8, .int .u8 y9, .int .u8 y10, .int .u8 y11, .int .u8 y12, .int .u8 y13, .int .u8 y14, .int .u8 y15, .int .i64 qn] _ HRN.out Tryd.underlying33 rfl HIP.out ?_))
      go_roundw
      case rel =>
        refine ⟨j + 1, A4, c4, rfl, by go_num, by omega, ?_, (CX.alloc _).step ch4 (fun g' hg' => .inr (own2.blks g' hg').1)⟩
        rw [HTK.out, List.flatMap_append]
        simpa using own4
      case measure => simp [intOf]; omega
    · obtain rfl : j = N := by omega
      have HTA : Hid (LL.take j = LL) := List.take_of_length_le (by rw [HLN.out]; omega)
      go_wp2_with fail
      go_ret
      exact ⟨A2, c2, rfl, by rw [HTA.out] at own2; exact own2.base CC.size, CC.trans CX⟩
end Go.Proofs.YtjpiekljjhgmoaaDoor
