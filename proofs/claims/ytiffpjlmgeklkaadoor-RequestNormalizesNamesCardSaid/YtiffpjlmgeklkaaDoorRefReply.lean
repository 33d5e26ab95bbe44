/- The reference's Valid, EncodeTarget and EncodeReply at a target without a name that is an IPv4 address. -/
import Derived.Test.YtiffpjlmgeklkaaDoorReply4
import Derived.Test.YtiffpjlmgeklkaaDoorStages4
namespace Go.Proofs.YtiffpjlmgeklkaaDoor
open Go.RowKit

theorem addrC_byte {six : Bool} {bs : List Int} {k : Nat} (h : k < bs.length) : (addrC six bs)[1 + k]? = some (.int .u8 (at_ bs k)) := by
  unfold addrC
  rw [Nat.add_comm, List.getElem?_cons_succ, List.getElem?_map, List.getElem?_eq_getElem h]
  simp [at_, List.getD, h]
theorem validA_of {bs : List Int} (hl : bs.length = 16) (h : ∀ j, 4 ≤ j → j < 16 → at_ bs j = 0) : validA false bs = true := by
  unfold validA
  rw [Bool.false_or, List.all_eq_true]
  intro x hx
  obtain ⟨i, hi, rfl⟩ := List.mem_iff_getElem.1 hx
  rw [List.length_drop] at hi
  have := h (4 + i) (by omega) (by omega)
  rw [List.getElem_drop]
  simpa [at_, List.getD, List.getElem?_eq_getElem (show 4 + i < bs.length by omega)] using this
theorem validA_not {bs : List Int} (hl : bs.length = 16) {j : Nat} (h4 : 4 ≤ j) (h16 : j < 16) (h : at_ bs j ≠ 0) : validA false bs = false := by
  unfold validA
  rw [Bool.false_or, Bool.eq_false_iff]
  intro ha
  have := List.all_eq_true.1 ha (at_ bs j) (by
    rw [List.mem_iff_getElem]
    refine ⟨j - 4, by rw [List.length_drop]; omega, ?_⟩
    rw [List.getElem_drop]
    simp [at_, List.getD, List.getElem?_eq_getElem (show j < bs.length by omega), show 4 + (j - 4) = j by omega])
  simp at this
  exact h this

set_option maxRecDepth 100000 in
theorem refValid (six : Bool) (bs : List Int) (hl : bs.length = 16) (w : World) :
    Calls Tryd.prog 29 #[.agg (addrC six bs).toArray] w fun e w' => e = .returned (.bool (validA six bs)) ∧ Ch [] w w' := by
  have hB : Blk (w.alloc (.cells (addrC six bs).toArray 24)) w.heap.size 24 (addrC six bs) := Blk.new w _ _
  have hC : Ch [] w (w.alloc (.cells (addrC six bs).toArray 24)) := (Ch.refl _ _).alloc _
  have c0 : (w.alloc (.cells (addrC six bs).toArray 24)).cell? ⟨w.heap.size, 0, none⟩ = some (.bool six) := hB.cell 0
  have hby : Hid (∀ k, k < 16 → (w.alloc (.cells (addrC six bs).toArray 24)).cell? ⟨w.heap.size, 1 + k, none⟩ = some (.int .u8 (at_ bs k))) := fun k hk => by rw [hB.cell]; exact addrC_byte (by omega)
  generalize hvs : (addrC six bs).toArray = vs at hB hC c0 hby ⊢
  clear hvs hB
  cases six
  · go_enter Tryd.func29, Tryd.ntmps29
    go_wp2_with fail
    go_loopw [3] (fun i wr => ∃ k : Nat, 4 ≤ k ∧ k ≤ 16 ∧ i = .int .i64 k ∧ Hid (∀ j, 4 ≤ j → j < k → at_ bs j = 0) ∧ wr = w.alloc (.cells vs 24)) (fun i _ => 16 - (intOf i).toNat)
    case atStart => exact ⟨4, by omega, by omega, rfl, fun j h1 h2 => absurd h2 (by omega), rfl⟩
    case round =>
      obtain ⟨k, h4, h16, rfl, hz, rfl⟩ := hrel
      by_cases hlt : k < 16
      · have hc := hby.out k hlt
        by_cases h0 : at_ bs k = 0
        · rw [h0] at hc
          have H0 := hid h0
          clear h0
          go_wp2_with fail
          go_roundw
          case rel =>
            refine ⟨k + 1, by omega, by omega, by go_num, fun j h1 h2 => ?_, by first | trivial | rfl⟩
            rcases Nat.lt_or_ge j k with h3 | h3
            · exact hz.out j h1 h3
            · obtain rfl : j = k := by omega
              exact H0.out
          case measure => simp [intOf]; omega
        · have hd : (at_ bs k != 0) = true := by simpa using h0
          have HV := hid (validA_not hl h4 hlt h0)
          clear h0
          generalize at_ bs k = x at hc hd
          go_wp2_with fail
          go_ret
          exact ⟨ret_bool HV.out.symm, hC⟩
      · obtain rfl : k = 16 := by omega
        go_wp2_with fail
        go_ret
        exact ⟨ret_bool (validA_of hl (fun j h1 h2 => hz.out j h1 h2)).symm, hC⟩
  · go_enter Tryd.func29, Tryd.ntmps29
    go_wp2_with fail
    go_loopw [3] (fun i wr => i = .int .i64 4 ∧ wr = w.alloc (.cells vs 24)) (fun _ _ => 0)
    case atStart => exact ⟨rfl, rfl⟩
    case round =>
      obtain ⟨rfl, rfl⟩ := hrel
      go_wp2_with fail
      go_ret
      exact ⟨rfl, hC⟩
theorem u8_info : (Tryd.prog.info? 5).map (fun i => (i.zero, i.size, i.bytes)) = some (some (.int .u8 0), 1, 1) := by kernel_rfl
theorem ints_cell (k : IntKind) (zs : List Int) : ∀ u ∈ zs.map (Value.int k), u.oneCell' = true := by
  intro u hu
  obtain ⟨z, _, rfl⟩ := List.mem_map.1 hu
  rfl

set_option maxRecDepth 100000 in
set_option maxHeartbeats 2000000 in
theorem refEncT4 (bs : List Int) (port : Int) (hl : bs.length = 16) (hv : (bs.drop 4).all (· == 0) = true) (hp : 0 ≤ port ∧ port < 65536) (w : World) :
    Calls Tryd.prog 12 #[.agg (targC ⟨#[]⟩ false bs port).toArray] w fun e w' => e = .returned (.tuple #[.string (strOfNums (1 :: (bs.take 4 ++ [port / 256, port % 256]))), .bool true]) ∧ Ch [] w w' := by
  obtain ⟨p0, p1⟩ := hp
  have hB : Blk (w.alloc (.cells (targC ⟨#[]⟩ false bs port).toArray 26)) w.heap.size 26 (targC ⟨#[]⟩ false bs port) := Blk.new w _ _
  have hC : Ch [] w (w.alloc (.cells (targC ⟨#[]⟩ false bs port).toArray 26)) := (Ch.refl _ _).alloc _
  have c0 : (w.alloc (.cells (targC ⟨#[]⟩ false bs port).toArray 26)).cell? ⟨w.heap.size, 0, none⟩ = some (.string ⟨#[]⟩) := hB.cell 0
  have c1 : (w.alloc (.cells (targC ⟨#[]⟩ false bs port).toArray 26)).cell? ⟨w.heap.size, 1, none⟩ = some (.bool false) := hB.cell 1
  have b18 : (targC ⟨#[]⟩ false bs port)[18]? = some (.int .i64 port) := by
    unfold targC addrC
    simp [hl]
  have c18 : (w.alloc (.cells (targC ⟨#[]⟩ false bs port).toArray 26)).cell? ⟨w.heap.size, 18, none⟩ = some (.int .i64 port) := by
    rw [hB.cell]; exact b18
  have hld : (w.alloc (.cells (targC ⟨#[]⟩ false bs port).toArray 26)).rangeAt w.heap.size 1 (addrC false bs) := fun j v hj => by
    rw [hB.cell, Nat.add_comm 1 j]
    unfold targC
    rw [List.getElem?_cons_succ, List.getElem?_append_left (List.getElem?_eq_some_iff.1 hj).1]
    exact hj
  have hli : (Tryd.prog.info? 24).map (·.size) = some (addrC false bs).length := by
    rw [show (addrC false bs).length = 17 by unfold addrC; rw [List.length_cons, List.length_map, hl]]; kernel_rfl
  have HLD := hid hld
  have HLI := hid hli
  have hby := fun i h => targ_byte (name := ⟨#[]⟩) (six := false) (bs := bs) (port := port) i h
  generalize hvs : targC ⟨#[]⟩ false bs port = cs at hB hC c0 c1 c18 HLD hby b18 ⊢
  clear hvs hld hli
  have HV : Hid (validA false bs = true) := by show _ = _; unfold validA; rw [hv]; rfl
  clear hv
  go_enter Tryd.func12, Tryd.ntmps12
  go_wp2_with (first
    | (refine wpList_load_want rfl 24 _ rfl w.heap.size 1 rfl (addrC false bs) _ HLD.out Tryd.underlying24 rfl HLI.out ?_)
    | (go_at_call 29; (with_reducible refine (refValid false bs hl _).mono ?_); rw [HV.out]; rintro e w2 ⟨rfl, C2⟩; have B2 := hB.ch C2 (by simp); have d0 : w2.cell? ⟨w.heap.size, 0, none⟩ = some (.string ⟨#[]⟩) := (C2.cell (p := ⟨w.heap.size, 0, none⟩) hB.lt (by simp)).trans c0; have d1 : w2.cell? ⟨w.heap.size, 1, none⟩ = some (.bool false) := (C2.cell (p := ⟨w.heap.size, 1, none⟩) hB.lt (by simp)).trans c1; have d18 : w2.cell? ⟨w.heap.size, 18, none⟩ = some (.int .i64 port) := (C2.cell (p := ⟨w.heap.size, 18, none⟩) hB.lt (by simp)).trans c18))
  have hlt2 := B2.lt
  have hR : ∀ w', Ch [] w2 w' → RdI .u8 w' (w.heap.size + 1) (some ⟨w.heap.size, 2, none⟩) 4 (bs.take 4) := fun w' C => blk_ints (B2.ch C (by simp)) 2 4 _ (by simp [hl]) (fun i hi => by rw [List.length_take] at hi; rw [hby i (by omega), List.getElem_take])
  have HR := hid hR
  clear hR
  refine wp_region_stagesM [⟨0, 16, 33554432⟩, ⟨0, 0, 67108864⟩, ⟨3, 100663296, 134217728⟩, ⟨0, 2, 268435456⟩, ⟨8, 268435456, 536870912⟩, ⟨16, 536870912, 1073741824⟩, ⟨36, 1207959552, 2147483648⟩, ⟨127, 2147483648, 16⟩] [([0, 3, 4, 5], 1, [0, 3, 4, 5]), ([], 2, [3, 4, 5]), ([], 6, [])] [7] (by kernel_rfl) (by kernel_rfl) ?_
  refine wpStages_step ?_
  simp only [pick, List.map_cons, List.map_nil, List.getD_cons_zero, List.getD_cons_succ]
  repeat (go_big_quiet_step (fail))
  refine wpQuiet_nil ?_
  intro n0
  simp only [pick, List.map_cons, List.map_nil, List.getD_cons_zero, List.getD_cons_succ]
  go_wp2
  have C3 : Ch [] w2 ((w2.drewN n0).alloc (.cells #[.int .u8 1] 5)) := ((Ch.refl _ _).drewN _).alloc _
  have hrA : RdI .u8 ((w2.drewN n0).alloc (.cells #[.int .u8 1] 5)) (w2.heap.size + 1) (some ⟨w2.heap.size, 0, none⟩) 1 [1] := blk_ints (Blk.new (w2.drewN n0) 5 [.int .u8 1]) 0 1 [1] rfl (fun i hi => by
    obtain rfl : i = 0 := by simpa using hi
    rfl)
  refine stagePost_mk ?_ ?_
  · intro o ho
    simp only [pick, List.map_cons, List.map_nil, List.getD_cons_zero, List.getD_cons_succ, List.mem_cons, List.not_mem_nil, or_false] at ho
    rcases ho with rfl | rfl | rfl | rfl
    all_goals
      refine float_any ?_
      repeat (go_big_quiet_step (fail))
      refine wpQuiet_nil ?_
      rfl
  refine wpStages_step ?_
  simp only [pick, List.map_nil]
  refine wpQuiet_nil ?_
  intro n1
  simp only [pick, List.map_cons, List.map_nil, List.getD_cons_zero, List.getD_cons_succ]
  go_wp2_with (at_builtin; go_must (refine wpList_app _ rfl (.tmp 25) (.tmp 26) _ rfl w2.heap.size 5 _ 1 1 Tryd.underlying34 u8_info rfl (by omega) _ _ _ _ rfl (Own.nil _ _ _ _) _ _ _ _ _ rfl ((hrA.heap rfl).rd) (ints_cell _ _) (by unfold maxLen; omega) (by omega) (by simp <;> omega) ?_; intro A3 c3 w3 own3 ch3 at3))
  simp only [Nat.zero_add, List.nil_append] at own3
  have C4 : Ch [] w2 w3 := (C3.drewN n1).step ch3 (by simp [blkOf])
  have hz3 := C4.size
  have hR3 := HR.out w3 C4
  refine stagePost_mk ?_ ?_
  · intro o ho
    simp only [pick, List.map_cons, List.map_nil, List.getD_cons_zero, List.getD_cons_succ, List.mem_cons, List.not_mem_nil, or_false] at ho
    rcases ho with rfl | rfl | rfl
    all_goals
      refine float_any ?_
      repeat (go_big_quiet_step (fail))
      refine wpQuiet_nil ?_
      rfl
  refine wpStages_step ?_
  simp only [pick, List.map_nil]
  refine wpQuiet_nil ?_
  intro n2
  simp only [pick, List.map_cons, List.map_nil, List.getD_cons_zero, List.getD_cons_succ]
  go_wp2_with (at_builtin; go_must (refine wpList_app _ rfl (.tmp 27) (.tmp 30) _ rfl w2.heap.size 5 _ 1 1 Tryd.underlying34 u8_info rfl (by omega) _ _ _ _ rfl (own3.drewN n2) _ _ _ _ _ rfl ((hR3.heap rfl).rd) (ints_cell _ _) (by unfold maxLen; omega) (by omega) (by simp <;> omega) ?_; intro A4 c4 w4 own4 ch4 at4))
  have C5 : Ch [] w2 w4 := (C4.drewN n2).step ch4 (fun b hb4 => .inr (own3.blks b hb4).1)
  have hz4 := C5.size
  have d18' : w4.cell? ⟨w.heap.size, 18, none⟩ = some (.int .i64 port) := (C5.cell (p := ⟨w.heap.size, 18, none⟩) hlt2 (by simp)).trans d18
  have HRB : Hid (∀ n, RdI .u8 ((w4.drewN n).alloc (.cells #[.int .u8 (port / 256), .int .u8 (port % 256)] 5)) (w4.heap.size + 1) (some ⟨w4.heap.size, 0, none⟩) 2 [port / 256, port % 256]) := fun n => blk_ints (Blk.new (w4.drewN n) 5 [.int .u8 (port / 256), .int .u8 (port % 256)]) 0 2 _ rfl (fun i hi => by
    rcases (show i = 0 ∨ i = 1 by simp at hi; omega) with rfl | rfl <;> rfl)
  refine stagePost_mk (by simp [pick]) ?_
  refine wpStages_last ?_
  simp only [pick, List.map_cons, List.map_nil, List.getD_cons_zero, List.getD_cons_succ]
  repeat (go_big_quiet_step (fail))
  refine wpQuiet_nil ?_
  intro n3
  go_wp2_with (first
    | (at_builtin; go_must (refine wpList_app _ rfl (.tmp 57) (.tmp 65) _ rfl w2.heap.size 5 _ 1 1 Tryd.underlying34 u8_info rfl (by omega) _ _ _ _ rfl ((own4.drewN n3).alloc _) _ _ _ _ _ rfl ((HRB.out n3).rd) (ints_cell _ _) (by unfold maxLen; omega) (by omega) (by simp <;> omega) ?_; intro A5 c5 w5 own5 ch5 at5; have hR5 : RdI .u8 w5 w5.heap.size A5 _ ([1] ++ bs.take 4 ++ [port / 256, port % 256]) := Rd.ints (by simpa using own5.rd)))
    | (refine wpList_strOf rfl _ _ _ _ rfl Tryd.underlying34 Tryd.underlying5 Tryd.underlying9 _ _ _ w5.heap.size ([1] ++ bs.take 4 ++ [port / 256, port % 256]) rfl hR5 ?_))
  go_ret2
  exact ⟨rfl, hC.trans (C2.trans (((C5.drewN n3).alloc _).step ch5 (fun b hb5 => .inr (own4.blks b hb5).1)))⟩
end Go.Proofs.YtiffpjlmgeklkaaDoor
