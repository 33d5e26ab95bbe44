/- ginnelref24.Rows. -/
import Derived.Test.YtjabeabbaambcaaDoorPPfx
import Derived.Test.YtjabeabbaambcaaDoorPfxI
import Derived.Test.YtjabeabbaambcaaDoorPre6
import Derived.Test.YtjabeabbaambcaaDoorLists
import Derived.Test.YtjabeabbaambcaaDoorPolP
import Derived.Test.YtjabeabbaambcaaDoorStages3
namespace Go.Proofs.YtjabeabbaambcaaDoor
open Go.RowKit

theorem int_infoZ : (Tryd.prog.info? 3).map (fun i => (i.zero, i.size, i.bytes)) = some (some (.int .i64 0), 1, 8) := by kernel_rfl
def polS9 : List ByteArray := [⟨#[58, 58, 49, 47, 49, 50, 56]⟩, ⟨#[58, 58, 47, 48]⟩, ⟨#[58, 58, 102, 102, 102, 102, 58, 48, 58, 48, 47, 57, 54]⟩, ⟨#[50, 48, 48, 50, 58, 58, 47, 49, 54]⟩, ⟨#[50, 48, 48, 49, 58, 58, 47, 51, 50]⟩, ⟨#[102, 99, 48, 48, 58, 58, 47, 55]⟩, ⟨#[58, 58, 47, 57, 54]⟩, ⟨#[102, 101, 99, 48, 58, 58, 47, 49, 48]⟩, ⟨#[51, 102, 102, 101, 58, 58, 47, 49, 54]⟩]
def precL : List Int := [50, 40, 35, 30, 5, 3, 1, 1, 1]
def labL : List Int := [0, 1, 4, 2, 5, 13, 3, 11, 12]
theorem polS9_pref : (polS9.map fun s => prefT (numsOf s)) = polT.map fun r => some r.1 := by decide +kernel
theorem polS9_small : ∀ s ∈ polS9, s.size ≤ 1000000 := by decide +kernel
theorem pol_cols : polT.map (fun r => r.2.1) = precL ∧ polT.map (fun r => r.2.2) = labL := ⟨rfl, rfl⟩
theorem pol_at (k : Nat) (hk : k < 9) : ∃ s p pr lb, polS9[k]? = some s ∧ polT[k]? = some (p, pr, lb) ∧ prefT (numsOf s) = some p ∧ s.size ≤ 1000000 ∧ GoodA p.2.1 ∧ at_ precL k = pr ∧ at_ labL k = lb := by
  have h1 : k < polS9.length := hk
  have h2 : k < polT.length := hk
  obtain ⟨r, hr⟩ : ∃ r, polT[k]? = some r := ⟨_, List.getElem?_eq_getElem h2⟩
  have hm := List.mem_of_getElem? hr
  obtain ⟨p, pr, lb⟩ := r
  have e1 := congrArg (fun l => l[k]?) polS9_pref
  simp only [List.getElem?_map, List.getElem?_eq_getElem h1, hr, Option.map_some] at e1
  have e2 := congrArg (fun l => l[k]?) pol_cols.1
  have e3 := congrArg (fun l => l[k]?) pol_cols.2
  simp only [List.getElem?_map, hr, Option.map_some] at e2 e3
  refine ⟨polS9[k], p, pr, lb, List.getElem?_eq_getElem h1, hr, Option.some.inj e1, polS9_small _ (List.getElem_mem h1), (pol_good _ hm).2, ?_, ?_⟩
  · simp [at_, List.getD, ← e2]
  · simp [at_, List.getD, ← e3]
theorem pol_len20 : ∀ r ∈ polT, (rowC r).length = 20 := fun r hr => row_len (pol_good r hr).2.1
set_option maxRecDepth 20000 in
set_option maxHeartbeats 4000000 in
theorem refRows (w : World) : Calls Tryd.prog 48 #[] w fun e w' => ∃ A c, e = .returned (.slice A 9 c) ∧ Own w' w.heap.size 75 20 A 9 c (polT.flatMap rowC) ∧ Ch [] w w' := by
  have hB0 : Blk (((w.alloc (.cells (polS9.map Value.string).toArray 9)).alloc (.cells (precL.map (Value.int .i64)).toArray 3)).alloc (.cells (labL.map (Value.int .i64)).toArray 3)) w.heap.size 9 (polS9.map Value.string) := ((Blk.new w _ _).alloc _).alloc _
  have hB1 : Blk (((w.alloc (.cells (polS9.map Value.string).toArray 9)).alloc (.cells (precL.map (Value.int .i64)).toArray 3)).alloc (.cells (labL.map (Value.int .i64)).toArray 3)) (w.heap.size + 1) 3 (precL.map (Value.int .i64)) := (Blk.newAt _ _ _ (by simp)).alloc _
  have hB2 : Blk (((w.alloc (.cells (polS9.map Value.string).toArray 9)).alloc (.cells (precL.map (Value.int .i64)).toArray 3)).alloc (.cells (labL.map (Value.int .i64)).toArray 3)) (w.heap.size + 2) 3 (labL.map (Value.int .i64)) := Blk.newAt _ _ _ (by simp)
  have hC0 : Ch [] w (((w.alloc (.cells (polS9.map Value.string).toArray 9)).alloc (.cells (precL.map (Value.int .i64)).toArray 3)).alloc (.cells (labL.map (Value.int .i64)).toArray 3)) := (((Ch.refl _ _).alloc _).alloc _).alloc _
  go_enter Tryd.func48, Tryd.ntmps48
  go_wp2_with (first
    | (refine wpList_buildRows rfl 93 9 9 _ rfl (polS9.map Value.string) _ 1 16 Tryd.underlying93 str_info (by decide) (by decide) (by kernel_rfl) ?_)
    | (refine wpList_buildRows (o := ⟨some 9, _, _, _, _, _⟩) rfl 103 3 9 _ rfl (precL.map (Value.int .i64)) _ 1 8 Tryd.underlying103 int_infoZ (by decide) (by decide) (by kernel_rfl) ?_)
    | (refine wpList_buildRows (o := ⟨some 10, _, _, _, _, _⟩) rfl 103 3 9 _ rfl (labL.map (Value.int .i64)) _ 1 8 Tryd.underlying103 int_infoZ (by decide) (by decide) (by kernel_rfl) ?_))
  go_loopw [4, 5] (fun o i wr => ∃ (k : Nat) (A : Option Addr) (c : Nat), o = .slice A k c ∧ i = .int .i64 k ∧ k ≤ 9 ∧ Own wr w.heap.size 75 20 A k c ((polT.take k).flatMap rowC) ∧ Blk wr w.heap.size 9 (polS9.map Value.string) ∧ Blk wr (w.heap.size + 1) 3 (precL.map (Value.int .i64)) ∧ Blk wr (w.heap.size + 2) 3 (labL.map (Value.int .i64)) ∧ (∀ x ∈ blkOf A, w.heap.size + 2 < x) ∧ Ch [] w wr) (fun _ i _ => 9 - (intOf i).toNat)
  case atStart => exact ⟨0, none, 0, rfl, rfl, by omega, Own.nil _ _ _ _, hB0, hB1, hB2, by simp [blkOf], hC0⟩
  case round =>
    clear hB0 hB1 hB2 hC0
    obtain ⟨k, A, c, rfl, rfl, hk, own, B0, B1, B2, hw0, CC⟩ := hrel
    have hle := CC.size
    have lt0 := B2.lt
    by_cases hlt : k < 9
    · obtain ⟨s, p, pr, lb, hs, hp, hpf, hsm, hgd, e1, e2⟩ := pol_at k hlt
      have hcell : wr.cell? ⟨w.heap.size, k, none⟩ = some (.string s) := by rw [B0.cell, List.getElem?_map, hs]; rfl
      have HPP := hid (refPPfx s p hsm hpf)
      have HTK := hid (take_one hp)
      have HL1 : Hid ((precL.map (Value.int .i64))[k]? = some (.int .i64 pr)) := by
        show _ = _
        rw [List.getElem?_map, List.getElem?_eq_getElem (show k < precL.length from hlt), ← e1]; simp [at_, List.getD, show k < precL.length from hlt]
      have HL2 : Hid ((labL.map (Value.int .i64))[k]? = some (.int .i64 lb)) := by
        show _ = _
        rw [List.getElem?_map, List.getElem?_eq_getElem (show k < labL.length from hlt), ← e2]; simp [at_, List.getD, show k < labL.length from hlt]
      obtain ⟨six, ps, n⟩ := p
      obtain ⟨b0, b1, b2, b3, b4, b5, b6, b7, b8, b9, b10, b11, b12, b13, b14, b15, rfl⟩ := len16 hgd.1
      have HIP := hid (pfx_inf (p := (six, [b0, b1, b2, b3, b4, b5, b6, b7, b8, b9, b10, b11, b12, b13, b14, b15], n)) rfl)
      have hk0 : (0 : Int) ≤ k := by omega
      have hk9 : (k : Int) < 9 := by omega
      clear hs hp hpf hsm hgd e1 e2
      go_wp2_with (first
        | (refine wpList_storeB rfl 49 _ _ rfl w2.heap.size 49 (pfxC (false, zeros, 0)) (pfxC (six, [b0, b1, b2, b3, b4, b5, b6, b7, b8, b9, b10, b11, b12, b13, b14, b15], n)) rfl rfl (Blk.new _ _ _) HIP.out rfl (pfx_one _) ?_; intro w3 B3 C3 Z3; have CC3 := (CC2.alloc _).step C3 (fun i hi => .inr (by simp at hi; omega)); have own3 := (own2.alloc _).ch C3 (by intro q hq; have := (own2.blks q hq).2; simp; omega); have B03 := (B02.alloc _).ch C3 (by simp; omega); have B13 := (B12.alloc _).ch C3 (by simp; omega); have B23 := (B22.alloc _).ch C3 (by simp; omega); have sz3 := CC3.size; clear Z3)
        | (go_at_call 66; (with_reducible refine (HPP.out _).mono ?_); rintro e w2 ⟨rfl, C2⟩; have own2 := own.ch C2 (by simp); have B02 := B0.ch C2 (by simp); have B12 := B1.ch C2 (by simp); have B22 := B2.ch C2 (by simp); have CC2 := CC.trans C2; have lt2 := B22.lt; have sz2 := CC2.size))
      have hp1 : w3.cell? ⟨w.heap.size + 1, k, none⟩ = some (.int .i64 pr) := (B13.cell k).trans HL1.out
      have hp2 : w3.cell? ⟨w.heap.size + 2, k, none⟩ = some (.int .i64 lb) := (B23.cell k).trans HL2.out
      try simp only [Act.put, List.setIfInBounds_toArray, List.set_cons_succ, List.set_cons_zero]
      refine wp_region_stagesM [⟨0, 16, 33554432⟩, ⟨0, 64, 67108864⟩, ⟨0, 4, 134217728⟩, ⟨0, 32, 268435456⟩, ⟨12, 402653184, 536870912⟩, ⟨16, 536870912, 1073741824⟩, ⟨0, 8, 2147483648⟩, ⟨0, 32, 4294967296⟩, ⟨192, 6442450944, 8589934592⟩, ⟨256, 8589934592, 17179869184⟩, ⟨546, 18320719872, 34359738368⟩, ⟨1024, 34359738368, 68719476736⟩, ⟨2049, 68753031168, 137438953472⟩, ⟨8191, 137438953472, 16⟩] [([0, 1, 2, 3, 4, 5, 6, 7, 8, 9, 10], 11, [0]), ([], 12, [])] [13] (by kernel_rfl) (by kernel_rfl) ?_
      refine wpStages_step ?_
      simp only [pick, List.map_cons, List.map_nil, List.getD_cons_zero, List.getD_cons_succ]
      repeat (first
        | (refine wpQuiet_row rfl 49 _ rfl w2.heap.size 0 rfl [.bool six, .int .u8 b0, .int .u8 b1, .int .u8 b2, .int .u8 b3, .int .u8 b4, .int .u8 b5, .int .u8 b6, .int .u8 b7, .int .u8 b8, .int .u8 b9, .int .u8 b10, .int .u8 b11, .int .u8 b12, .int .u8 b13, .int .u8 b14, .int .u8 b15, .int .i64 n] _ (fun w' ⟨q, hq⟩ => hq ▸ (B3.drewN q).range) Tryd.underlying49 rfl HIP.out ?_; simp only [Act.put, List.setIfInBounds_toArray, List.set_cons_succ, List.set_cons_zero])
        | go_big_quiet_step (fail))
      refine wpQuiet_nil ?_
      intro n0
      simp only [pick, List.map_cons, List.map_nil, List.getD_cons_zero, List.getD_cons_succ]
      go_wp2_with (refine wpList_buildRows rfl 72 75 1 _ rfl [.bool six, .int .u8 b0, .int .u8 b1, .int .u8 b2, .int .u8 b3, .int .u8 b4, .int .u8 b5, .int .u8 b6, .int .u8 b7, .int .u8 b8, .int .u8 b9, .int .u8 b10, .int .u8 b11, .int .u8 b12, .int .u8 b13, .int .u8 b14, .int .u8 b15, .int .i64 n, .int .i64 pr, .int .i64 lb] _ 20 _ Tryd.underlying72 row_infoZ (by decide) (by decide) (by kernel_rfl) ?_)
      refine stagePost_mk ?_ ?_
      · intro o ho
        simp only [pick, List.map_cons, List.map_nil, List.getD_cons_zero, List.mem_cons, List.not_mem_nil, or_false] at ho
        obtain rfl := ho
        refine float_any ?_
        repeat (go_big_quiet_step (fail))
        refine wpQuiet_nil ?_
        rfl
      refine wpStages_step ?_
      simp only [pick, List.map_nil]
      refine wpQuiet_nil ?_
      intro n1
      simp only [pick, List.map_cons, List.map_nil, List.getD_cons_zero, List.getD_cons_succ]
      go_wp2_with (at_builtin; (refine wpList_app _ rfl (.tmp 25) (.tmp 36) _ rfl w.heap.size 75 _ 20 48 Tryd.underlying72 row_infoZ rfl (by omega) _ _ _ _ rfl (((own3.drewN n0).alloc _).drewN n1) _ _ _ _ (rowC ((six, [b0, b1, b2, b3, b4, b5, b6, b7, b8, b9, b10, b11, b12, b13, b14, b15], n), pr, lb)) rfl ((Rd.new (w3.drewN n0) 20 (rowC ((six, [b0, b1, b2, b3, b4, b5, b6, b7, b8, b9, b10, b11, b12, b13, b14, b15], n), pr, lb)) 1 rfl _).drewN n1) (List.all_eq_true.1 (row_one _)) (by unfold maxLen; omega) (by omega) ((((CC3.drewN n0).alloc _).drewN n1)).size ?_; intro A4 c4 w4 own4 ch4 at4))
      refine stagePost_mk (by simp [pick]) ?_
      refine wpStages_last ?_
      simp only [pick, List.map_cons, List.map_nil, List.getD_cons_zero, List.getD_cons_succ]
      repeat (go_big_quiet_step (fail))
      refine wpQuiet_nil ?_
      intro n2
      go_wp2_with fail
      go_roundw
      case rel =>
        have CC4 : Ch [] w w4 := ((((CC3.drewN n0).alloc _).drewN n1)).step ch4 (fun g' hg' => .inr (own.blks g' hg').1)
        refine ⟨k + 1, A4, c4, rfl, by go_num, by omega, ?_, ?_, ?_, ?_, ?_, CC4.drewN n2⟩
        · rw [HTK.out, List.flatMap_append]
          have := own4.drewN n2
          simpa using this
        · exact ((((B03.drewN n0).alloc _).drewN n1).ch ch4 (fun hm => by have := hw0 _ hm; omega)).drewN n2
        · exact ((((B13.drewN n0).alloc _).drewN n1).ch ch4 (fun hm => by have := hw0 _ hm; omega)).drewN n2
        · exact ((((B23.drewN n0).alloc _).drewN n1).ch ch4 (fun hm => by have := hw0 _ hm; omega)).drewN n2
        · intro x hx
          rcases at4 x hx with h1 | h1
          · exact hw0 x h1
          · have h2 := B23.lt
            have h3 : (((w3.drewN n0).alloc (.cells [.bool six, .int .u8 b0, .int .u8 b1, .int .u8 b2, .int .u8 b3, .int .u8 b4, .int .u8 b5, .int .u8 b6, .int .u8 b7, .int .u8 b8, .int .u8 b9, .int .u8 b10, .int .u8 b11, .int .u8 b12, .int .u8 b13, .int .u8 b14, .int .u8 b15, .int .i64 n, .int .i64 pr, .int .i64 lb].toArray 75)).drewN n1).heap.size = w3.heap.size + 1 := by
              show ((w3.drewN n0).alloc _).heap.size = _
              rw [World.size_alloc]; rfl
            omega
      case measure => simp [intOf]; omega
    · obtain rfl : k = 9 := by omega
      go_wp2_with fail
      go_ret
      refine ⟨A, c, rfl, ?_, CC⟩
      rwa [List.take_of_length_le (by rw [pol_len]; omega)] at own
end Go.Proofs.YtjabeabbaambcaaDoor
