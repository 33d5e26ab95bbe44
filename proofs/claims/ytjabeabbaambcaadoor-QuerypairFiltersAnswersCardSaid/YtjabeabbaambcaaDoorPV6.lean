/- ginnelref07.V6: eight groups. -/
import Derived.Test.YtjabeabbaambcaaDoorPGrp
namespace Go.Proofs.YtjabeabbaambcaaDoor
open Go.RowKit

theorem grpB_len : ∀ gs : List Int, (grpB gs).length = 2 * gs.length
  | [] => rfl
  | g :: gs => by show ([g / 256, g % 256] ++ grpB gs).length = _; rw [List.length_append, grpB_len gs]; simp; omega
theorem grpB_at : ∀ (gs : List Int) (k : Nat), k < gs.length → at_ (grpB gs) (2 * k) = at_ gs k / 256 ∧ at_ (grpB gs) (2 * k + 1) = at_ gs k % 256
  | [], k, h => by cases h
  | g :: gs, 0, _ => ⟨rfl, rfl⟩
  | g :: gs, k + 1, h => by
    obtain ⟨h1, h2⟩ := grpB_at gs k (by simpa using h)
    have e : grpB (g :: gs) = g / 256 :: g % 256 :: grpB gs := rfl
    rw [e, show 2 * (k + 1) = 2 * k + 1 + 1 by omega]
    exact ⟨h1, h2⟩
theorem grpB_good {gs : List Int} (hl : gs.length = 8) (hb : ∀ x ∈ gs, 0 ≤ x ∧ x ≤ 65535) : GoodA (grpB gs) := by
  refine ⟨by rw [grpB_len, hl], fun x hx => ?_⟩
  obtain ⟨g, hg, hxg⟩ := List.mem_flatMap.1 hx
  have := hb g hg
  simp at hxg
  omega
set_option maxRecDepth 20000 in
set_option maxHeartbeats 4000000 in
theorem refV6 (A : Option Addr) (cp : Nat) (gs : List Int) (w : World) (hr : RdI .u16 w w.heap.size A 8 gs) (hl : gs.length = 8) (hb : ∀ x ∈ gs, 0 ≤ x ∧ x ≤ 65535) :
    Calls Tryd.prog 104 #[.slice A 8 cp] w fun e w' => e = .returned (.tuple #[.agg (addrC true (grpB gs)).toArray, .bool true]) ∧ Ch [] w w' := by
  have HI := hid (addr_inf (six := true) (bs := zeros) rfl)
  have hl16 : (grpB gs).length = 16 := by rw [grpB_len, hl]
  have HI2 := hid (addr_inf (six := true) (bs := grpB gs) hl16)
  have HFS := hid (fun k (hk : k < 16) => fill_set (grpB gs) zeros k (by omega) (by show k < 16; omega))
  have HGA := hid (fun k (hk : k < 8) => grpB_at gs k (by omega))
  have HBB := hid (fun k (hk : k < 8) => hb (at_ gs k) (by simp [at_, List.getD, hl, hk]))
  obtain ⟨q, off, rfl, hqw, hcell⟩ := hr.2 (by omega)
  have HCE := hid hcell
  have HLE : Hid (∀ k, k ≤ 16 → ((grpB gs).take k ++ zeros.drop k).length = 16) := fun k hk => by rw [List.length_append, List.length_take, List.length_drop, hl16]; show min k 16 + (16 - k) = 16; omega
  clear hcell hr hb
  go_enter Tryd.func104, Tryd.ntmps104
  have hB1 : Blk (w.alloc (.cells (addrC false zeros).toArray 29)) w.heap.size 29 (addrC false zeros) := Blk.new _ _ _
  go_wp2_with (refine wpList_storeB rfl 29 _ _ rfl (w.heap.size + 1) 29 (addrC false zeros) (addrC true zeros) rfl rfl (Blk.newAt _ _ _ (by simp)) HI.out rfl (addr_one' _ _) ?_; intro w2 B2 C2 Z2; have B1 := (hB1.alloc _).ch C2 (by simp); have CC := (((Ch.refl [] w).alloc _).alloc _).step C2 (fun i hi => .inr (by simp at hi; omega)))
  clear Z2
  have hz16 : (addrC true zeros) = addrC true ((grpB gs).take (2 * 0) ++ zeros.drop (2 * 0)) := by simp
  rw [hz16] at B2
  clear hz16
  go_loopw [5] (fun i wr => ∃ k : Nat, k ≤ 8 ∧ i = .int .i64 k ∧ Blk wr w.heap.size 29 (addrC false zeros) ∧ Blk wr (w.heap.size + 1) 29 (addrC true ((grpB gs).take (2 * k) ++ zeros.drop (2 * k))) ∧ Ch [] w wr) (fun i _ => 8 - (intOf i).toNat)
  case atStart => exact ⟨0, by omega, rfl, B1, B2, CC⟩
  case round =>
    clear B1 B2 CC C2 hB1
    obtain ⟨k, hk, rfl, B1, B2, CC⟩ := hrel
    have lt2 := B2.lt
    by_cases hlt : k < 8
    · obtain ⟨x0, x1⟩ := HBB.out k hlt
      obtain ⟨g0, g1⟩ := HGA.out k hlt
      have hf0 := HFS.out (2 * k) (by omega)
      have hf1 := HFS.out (2 * k + 1) (by omega)
      rw [g0] at hf0
      rw [g1] at hf1
      have hcx : wr.cell? ⟨q, off + k, none⟩ = some (.int .u16 (at_ gs k)) := (CC.cell (p := ⟨q, off + k, none⟩) hqw (by simp)).trans (HCE.out k hlt)
      have HS0 : Hid (∀ m v, v = at_ gs k / 256 → Blk ((wr.drewN m).setCell ⟨w.heap.size + 1, 1 + 2 * k, none⟩ (.int .u8 v)) (w.heap.size + 1) 29 (addrC true ((grpB gs).take (2 * k + 1) ++ zeros.drop (2 * k + 1)))) := by
        rintro m _ rfl
        rw [← hf0, ← addr_set]
        exact (B2.drewN m).set _ _
      have hcx2 : ∀ w', Ch [] w w' → w'.cell? ⟨q, off + k, none⟩ = some (.int .u16 (at_ gs k)) := fun w' h => (h.cell (p := ⟨q, off + k, none⟩) hqw (by simp)).trans (HCE.out k hlt)
      have HCX := hid hcx2
      clear hf0 g0 g1 hcx2
      generalize at_ gs k = x at hcx x0 x1 hf1 HS0 HCX
      have F0 : ∀ m, (wr.drewN m).frozen? ⟨w.heap.size + 1, 1 + 2 * k, none⟩ = false := fun m => (B2.drewN m).frozen _
      have hc0 : ∃ u, wr.cell? ⟨w.heap.size + 1, 1 + 2 * k, none⟩ = some (.int .u8 u) := ⟨_, (B2.cell (1 + 2 * k)).trans (addrC_byte (by rw [HLE.out (2 * k) (by omega)]; omega))⟩
      obtain ⟨u0, hc0⟩ := hc0
      have hF0 := B2.frozen (1 + 2 * k)
      go_wp2_with fail
      refine wp_region_stagesM [⟨0, 32, 32768⟩, ⟨1, 32768, 65536⟩, ⟨0, 32, 131072⟩, ⟨4, 131072, 262144⟩, ⟨8, 262144, 524288⟩, ⟨0, 1, 1048576⟩, ⟨0, 32, 2097152⟩, ⟨96, 3145728, 4194304⟩, ⟨128, 4194304, 8388608⟩, ⟨256, 8388608, 16777216⟩, ⟨512, 16777216, 33554432⟩, ⟨0, 1, 67108864⟩, ⟨0, 32, 134217728⟩, ⟨6144, 201326592, 268435456⟩, ⟨8192, 268435456, 536870912⟩, ⟨16384, 536870912, 1073741824⟩, ⟨0, 16, 2147483648⟩, ⟨67555, 2147549184, 4294967296⟩, ⟨133091, 4328521728, 0⟩, ⟨0, 16, 8589934592⟩, ⟨1048575, 8590458880, 17179869184⟩, ⟨1572863, 18253611008, 0⟩] [([0, 1, 2, 3, 4, 5, 6, 7, 8, 9, 10, 11, 12, 13, 14, 15, 16, 17, 19], 18, [2, 3, 4, 11, 12, 13, 14, 15, 19]), ([20], 21, [])] [] (by kernel_rfl) (by kernel_rfl) ?_
      refine wpStages_step ?_
      simp only [pick, List.map_cons, List.map_nil, List.getD_cons_zero, List.getD_cons_succ]
      repeat (go_big_quiet_step (fail))
      refine wpQuiet_nil ?_
      intro n0
      simp only [pick, List.map_cons, List.map_nil, List.getD_cons_zero, List.getD_cons_succ]
      go_wp2_with fail
      have BS2 := HS0.out n0 (x / 256) rfl
      have BS1 : Blk ((wr.drewN n0).setCell ⟨w.heap.size + 1, 1 + 2 * k, none⟩ (.int .u8 (x / 256))) w.heap.size 29 (addrC false zeros) := (B1.drewN n0).far (p := ⟨w.heap.size + 1, 1 + 2 * k, none⟩) (by simp) _
      have CS : Ch [] w ((wr.drewN n0).setCell ⟨w.heap.size + 1, 1 + 2 * k, none⟩ (.int .u8 (x / 256))) := (CC.drewN n0).setCell (p := ⟨w.heap.size + 1, 1 + 2 * k, none⟩) (.inr (by simp)) _
      have hcs : ((wr.drewN n0).setCell ⟨w.heap.size + 1, 1 + 2 * k, none⟩ (.int .u8 (x / 256))).cell? ⟨q, off + k, none⟩ = some (.int .u16 x) := HCX.out _ CS
      generalize (wr.drewN n0).setCell ⟨w.heap.size + 1, 1 + 2 * k, none⟩ (.int .u8 (x / 256)) = wS at BS2 BS1 CS hcs ⊢
      clear HS0 F0 hc0 hF0 B1 B2 hcx CC
      have hc1 : ∃ u, wS.cell? ⟨w.heap.size + 1, 1 + (2 * k + 1), none⟩ = some (.int .u8 u) := ⟨_, (BS2.cell (1 + (2 * k + 1))).trans (addrC_byte (by rw [HLE.out (2 * k + 1) (by omega)]; omega))⟩
      obtain ⟨u1, hc1⟩ := hc1
      have hF1 := BS2.frozen (1 + (2 * k + 1))
      have HS1 : Hid (∀ m m', Blk (((wS.drewN m).setCell ⟨w.heap.size + 1, 1 + (2 * k + 1), none⟩ (.int .u8 (x % 256))).drewN m') (w.heap.size + 1) 29 (addrC true ((grpB gs).take (2 * (k + 1)) ++ zeros.drop (2 * (k + 1))))) := by
        intro m m'
        rw [show 2 * (k + 1) = 2 * k + 1 + 1 by omega, ← hf1, ← addr_set]
        exact ((BS2.drewN m).set _ _).drewN m'
      have HS1b : Hid (∀ m m', Blk (((wS.drewN m).setCell ⟨w.heap.size + 1, 1 + (2 * k + 1), none⟩ (.int .u8 (x % 256))).drewN m') w.heap.size 29 (addrC false zeros)) := fun m m' => ((BS1.drewN m).far (p := ⟨w.heap.size + 1, 1 + (2 * k + 1), none⟩) (by simp) _).drewN m'
      have HS1c : Hid (∀ m m', Ch [] w (((wS.drewN m).setCell ⟨w.heap.size + 1, 1 + (2 * k + 1), none⟩ (.int .u8 (x % 256))).drewN m')) := fun m m' => ((CS.drewN m).setCell (p := ⟨w.heap.size + 1, 1 + (2 * k + 1), none⟩) (.inr (by simp)) _).drewN m'
      clear hf1 BS2 BS1 CS
      refine stagePost_mk ?_ ?_
      · intro o ho
        simp only [pick, List.map_cons, List.map_nil, List.getD_cons_zero, List.getD_cons_succ, List.mem_cons, List.not_mem_nil, or_false] at ho
        rcases ho with rfl | rfl | rfl | rfl | rfl | rfl | rfl | rfl | rfl
        all_goals
          refine float_any ?_
          repeat (go_big_quiet_step (fail))
          refine wpQuiet_nil ?_
          rfl
      refine wpStages_step ?_
      simp only [pick, List.map_cons, List.map_nil, List.getD_cons_zero, List.getD_cons_succ]
      repeat (go_big_quiet_step (fail))
      refine wpQuiet_nil ?_
      intro n1
      simp only [pick, List.map_cons, List.map_nil, List.getD_cons_zero, List.getD_cons_succ]
      go_wp2_with fail
      refine stagePost_mk ?_ ?_
      · intro o ho; simp [pick] at ho
      refine wpStages_last ?_
      simp only [pick, List.map_nil]
      refine wpQuiet_nil ?_
      intro n2
      go_wp2_with fail
      go_roundw
      case rel => exact ⟨k + 1, by omega, by go_num, HS1b.out _ _, HS1.out _ _, HS1c.out _ _⟩
      case measure => simp [intOf]; omega
    · obtain rfl : k = 8 := by omega
      have hfull : (grpB gs).take (2 * 8) ++ zeros.drop (2 * 8) = grpB gs := by
        rw [List.take_of_length_le (by omega)]; show grpB gs ++ [] = _; rw [List.append_nil]
      rw [hfull] at B2
      go_wp2_with (first
        | (refine wpList_loadB rfl 29 _ rfl (w.heap.size + 1) 29 (addrC true (grpB gs)) _ rfl B2 Tryd.underlying29 rfl HI2.out ?_)
        | (refine wpList_storeB rfl 29 _ _ rfl w.heap.size 29 (addrC false zeros) (addrC true (grpB gs)) rfl rfl B1 HI2.out ((addr_len (six := false) (bs := zeros) rfl).trans (addr_len hl16).symm) (addr_one' _ _) ?_; intro w5 B5 C5 Z5))
      try simp only [Exit.inBlock, Exit.then]
      refine bodyPost_ret (results_rowF2 rfl _ _ rfl B5 Tryd.underlying29 rfl HI2.out) rfl ?_
      exact ⟨rfl, CC.step C5 (fun i hi => .inr (by simp at hi; omega))⟩
end Go.Proofs.YtjabeabbaambcaaDoor
