/- ginnelref15.ParseTarget (printed by mk_tgtr.py). -/
import Derived.Test.YtiffpjlmgeklkaaDoorTgtP
namespace Go.Proofs.YtiffpjlmgeklkaaDoor
open Go.RowKit

theorem targ_set (name : ByteArray) (six : Bool) (bs : List Int) (port : Int) (k : Nat) (h : k < bs.length) (v : Int) : (targC name six bs port).set (2 + k) (.int .u8 v) = targC name six (bs.set k v) port := by
  unfold targC addrC
  rw [show 2 + k = (k + 1) + 1 by omega, List.set_cons_succ, List.cons_append, List.set_cons_succ, List.set_append_left _ _ (by rw [List.length_map]; exact h), List.map_set, List.cons_append]
theorem fill_set (xs zs : List Int) (k : Nat) (hx : k < xs.length) (hz : k < zs.length) : (xs.take k ++ zs.drop k).set k (at_ xs k) = xs.take (k + 1) ++ zs.drop (k + 1) := by
  have h1 : (xs.take k).length = k := by rw [List.length_take]; omega
  rw [List.set_append_right _ _ (by omega), h1, Nat.sub_self, List.drop_eq_getElem_cons hz, List.set_cons_zero, List.take_succ_eq_append_getElem hx, List.append_assoc]
  simp [at_, List.getD, List.getElem?_eq_getElem hx]

set_option maxRecDepth 100000 in
set_option maxHeartbeats 4000000 in
theorem parseTR (s : ByteArray) (hs : s.size ≤ 1000000000000000) (w : World) : Calls Tryd.prog 32 #[.string s] w fun e w' => e = .returned (tgV (parseT (numsOf s))) ∧ Ch [] w w' := by
  by_cases h0 : s.size = 0
  case pos =>
    have HP := hid (parse_e s h0)
    have he := isEmp h0
    clear h0
    go_enter Tryd.func32, Tryd.ntmps32
    go_wp2_with (refine wpList_storeB rfl 26 _ _ rfl w.heap.size 26 (tgtC tgt0) (tgtC tgt0) rfl rfl (by first | exact Blk.new _ _ _ | exact (Blk.new _ _ _).drewN _) (tgt_inf rfl) rfl rfl ?_; intro w2 B2 C2 Z2)
    try simp only [Exit.inBlock, Exit.then]
    refine bodyPost_ret (results_row3 rfl _ _ rfl B2 Tryd.underlying26 rfl (tgt_inf rfl)) rfl ?_
    exact ⟨by rw [HP.out]; rfl, ((Ch.refl [] w).alloc _).step C2 (fun i hi => .inr (by simp at hi; omega))⟩
  have hp : 0 < s.size := by omega
  have i0 := notEmp hp
  have e0 : ((s[0]'hp).toNat : Int) = byt s 0 := byt_get hp
  by_cases k1 : byt s 0 = 1
  case pos =>
    rw [k1] at e0
    by_cases h7 : s.size < 7
    case pos =>
      have HP := hid (parse_1s s hp k1 h7)
      have h7' : (s.size : Int) < 5 + 2 := by omega
      clear k1
      go_enter Tryd.func32, Tryd.ntmps32
      go_wp2_with (refine wpList_storeB rfl 26 _ _ rfl w.heap.size 26 (tgtC tgt0) (tgtC tgt0) rfl rfl (by first | exact Blk.new _ _ _ | exact (Blk.new _ _ _).drewN _) (tgt_inf rfl) rfl rfl ?_; intro w2 B2 C2 Z2)
      try simp only [Exit.inBlock, Exit.then]
      refine bodyPost_ret (results_row3 rfl _ _ rfl B2 Tryd.underlying26 rfl (tgt_inf rfl)) rfl ?_
      exact ⟨by rw [HP.out]; rfl, ((Ch.refl [] w).alloc _).step C2 (fun i hi => .inr (by simp at hi; omega))⟩
    have HP0 := parse_1 s k1 (by omega)
    have p5 : 5 < s.size := by omega
    have p6 : 6 < s.size := by omega
    have e5 : ((s[5]'p5).toNat : Int) = byt s 5 := byt_get p5
    have e6 : ((s[6]'p6).toNat : Int) = byt s 6 := byt_get p6
    have r5 := byt_rng s 5
    have r6 := byt_rng s 6
    generalize byt s 5 = b5 at e5 r5 HP0
    generalize byt s 6 = b6 at e6 r6 HP0
    have ho := or256 b5 b6 (by omega) (by omega) (by omega) (by omega)
    obtain ⟨P, hP⟩ : ∃ P, b5 * 256 + b6 = P := ⟨_, rfl⟩
    rw [hP] at ho HP0
    obtain ⟨X, hX⟩ : ∃ X, s.extract 1 5 = X := ⟨_, rfl⟩
    have hXs : X.size = 4 := by rw [← hX, ByteArray.size_extract]; omega
    rw [hX] at HP0
    have HP := hid HP0
    have hl7 : ¬ (s.size : Int) < 5 + 2 := by omega
    have hb1 : (5 : Int) ≤ s.size := by omega
    clear HP0 k1 hP
    go_enter Tryd.func32, Tryd.ntmps32
    go_wp2_with fail
    refine wp_region_stagesM [⟨0, 1, 2199023255552⟩, ⟨0, 128, 4398046511104⟩, ⟨2, 4398046511104, 8796093022208⟩, ⟨5, 10995116277760, 17592186044416⟩, ⟨8, 17592186044416, 35184372088832⟩, ⟨16, 35184372088832, 70368744177664⟩, ⟨0, 1, 140737488355328⟩, ⟨0, 128, 281474976710656⟩, ⟨128, 281474976710656, 562949953421312⟩, ⟨320, 703687441776640, 1125899906842624⟩, ⟨512, 1125899906842624, 2251799813685248⟩, ⟨1056, 2322168557862912, 4503599627370496⟩, ⟨2048, 4503599627370496, 9007199254740992⟩, ⟨0, 0, 256⟩, ⟨16383, 9007199254741248, 0⟩] [([0, 1, 2, 3, 4, 5, 6, 7, 8, 9, 10, 11, 12], 13, [0, 1, 2, 3, 4, 5, 6, 7, 8, 9, 10, 11, 12]), ([], 14, [])] [] (by kernel_rfl) (by kernel_rfl) ?_
    refine wpStages_step ?_
    simp only [pick, List.map_cons, List.map_nil, List.getD_cons_zero, List.getD_cons_succ]
    repeat (go_big_quiet_step (fail))
    refine wpQuiet_nil ?_
    intro n0
    simp only [pick, List.map_cons, List.map_nil, List.getD_cons_zero, List.getD_cons_succ]
    go_wp2
    have B0 : Blk (((w.alloc (.cells (tgtC tgt0).toArray 26)).drewN n0).alloc (.cells (tgtC tgt0).toArray 26)) w.heap.size 26 (tgtC tgt0) := ((Blk.new w _ _).drewN _).alloc _
    have B8 : Blk (((w.alloc (.cells (tgtC tgt0).toArray 26)).drewN n0).alloc (.cells (tgtC tgt0).toArray 26)) (w.heap.size + 1) 26 (tgtC tgt0) := Blk.newAt _ _ _ (by simp)
    have CA : Ch [] w (((w.alloc (.cells (tgtC tgt0).toArray 26)).drewN n0).alloc (.cells (tgtC tgt0).toArray 26)) := (((Ch.refl _ _).alloc _).drewN _).alloc _
    change stagePost _ _ _ _ _ _ (((w.alloc (.cells (tgtC tgt0).toArray 26)).drewN n0).alloc (.cells (tgtC tgt0).toArray 26))
    generalize (((w.alloc (.cells (tgtC tgt0).toArray 26)).drewN n0).alloc (.cells (tgtC tgt0).toArray 26)) = wA at B0 B8 CA ⊢
    refine stagePost_mk ?_ ?_
    · intro o ho
      simp only [pick, List.map_cons, List.map_nil, List.getD_cons_zero, List.getD_cons_succ, List.mem_cons, List.not_mem_nil, or_false] at ho
      rcases ho with rfl | rfl | rfl | rfl | rfl | rfl | rfl | rfl | rfl | rfl | rfl | rfl | rfl
      all_goals
        refine float_any ?_
        repeat (go_big_quiet_step (fail))
        refine wpQuiet_nil ?_
        rfl
    refine wpStages_step ?_
    simp only [pick, List.map_nil]
    refine wpQuiet_nil ?_
    intro n1
    simp only [pick, List.map_cons, List.map_nil, List.getD_cons_zero, List.getD_cons_succ]
    go_wp2_with (refine wpList_storeB rfl 26 _ _ rfl (w.heap.size + 1) 26 (tgtC tgt0) (tgtC (⟨#[]⟩, false, zeros, P)) rfl rfl (B8.drewN n1) (tgt_inf rfl) rfl rfl ?_; intro w3 B8' C3 Z3)
    have B0' := (B0.drewN n1).ch C3 (by simp)
    have CA3 : Ch [] w w3 := (CA.drewN n1).step C3 (fun i hi => .inr (by simp at hi; omega))
    refine stagePost_mk (by simp [pick]) ?_
    refine wpStages_last ?_
    simp only [pick, List.map_nil]
    refine wpQuiet_nil ?_
    intro n2
    have c1 : w3.cell? ⟨w.heap.size + 1, 1, none⟩ = some (.bool false) := B8'.cell 1
    have f1 := B8'.frozen 1
    clear B0 B8 CA C3
    go_wp2_with fail
    have B8b : Blk ((w3.drewN n2).setCell ⟨w.heap.size + 1, 1, none⟩ (.bool false)) (w.heap.size + 1) 26 (tgtC (⟨#[]⟩, false, zeros, P)) := (B8'.drewN n2).set 1 _
    have B0b : Blk ((w3.drewN n2).setCell ⟨w.heap.size + 1, 1, none⟩ (.bool false)) w.heap.size 26 (tgtC tgt0) := (B0'.drewN n2).far (p := ⟨w.heap.size + 1, 1, none⟩) (by simp) _
    have CAb : Ch [] w ((w3.drewN n2).setCell ⟨w.heap.size + 1, 1, none⟩ (.bool false)) := (CA3.drewN n2).setCell (p := ⟨w.heap.size + 1, 1, none⟩) (.inr (by simp)) _
    generalize ((w3.drewN n2).setCell ⟨w.heap.size + 1, 1, none⟩ (.bool false)) = wB at B8b B0b CAb ⊢
    clear B8' B0' CA3 c1 f1
    have hnx : (numsOf X).length = 4 := by rw [numsOf_length, hXs]
    go_loopw [9] (fun i wr => ∃ k : Nat, i = .int .i64 k ∧ k ≤ 4 ∧ Blk wr (w.heap.size + 1) 26 (tgtC (⟨#[]⟩, false, (numsOf X).take k ++ zeros.drop k, P)) ∧ Blk wr w.heap.size 26 (tgtC tgt0) ∧ Ch [] w wr) (fun i _ => 4 - (intOf i).toNat)
    case atStart => exact ⟨0, rfl, by omega, B8b, B0b, CAb⟩
    case round =>
      clear B8b B0b CAb
      obtain ⟨k, rfl, hk, B8b, B0b, CAb⟩ := hrel
      by_cases hkl : k < 4
      · have hlz : ((numsOf X).take k ++ zeros.drop k).length = 16 := by
          have : zeros.length = 16 := rfl
          rw [List.length_append, List.length_take, List.length_drop]; omega
        have hks : 1 + k < s.size := by omega
        have ek : ((s[1 + k]'hks).toNat : Int) = byt s (1 + k) := byt_get hks
        have eX : byt s (1 + k) = at_ (numsOf X) k := by
          rw [← byt_at (by omega), ← hX, byt_extract (by omega) (by omega)]
        rw [eX] at ek
        have q1 : ((1 : Int) + k).toNat = 1 + k := by omega
        have hcell : wr.cell? ⟨w.heap.size + 1, 2 + k, none⟩ = some (.int .u8 (((numsOf X).take k ++ zeros.drop k)[k]'(by omega))) := (B8b.cell (2 + k)).trans (targ_byte (name := ⟨#[]⟩) (six := false) (bs := (numsOf X).take k ++ zeros.drop k) (port := P) k (by omega))
        have hfro := B8b.frozen (2 + k)
        have BN := B8b.set (2 + k) (.int .u8 (at_ (numsOf X) k))
        have hset : (tgtC (⟨#[]⟩, false, (numsOf X).take k ++ zeros.drop k, P)).set (2 + k) (.int .u8 (at_ (numsOf X) k)) = tgtC (⟨#[]⟩, false, (numsOf X).take (k + 1) ++ zeros.drop (k + 1), P) := by
          have h1 := targ_set ⟨#[]⟩ false ((numsOf X).take k ++ zeros.drop k) P k (by omega) (at_ (numsOf X) k)
          rw [fill_set _ _ _ (by omega) (by show k < 16; omega)] at h1
          exact h1
        rw [hset] at BN
        have HN := hid BN
        clear BN hset eX
        generalize ((numsOf X).take k ++ zeros.drop k)[k]'(by omega) = old at hcell
        generalize at_ (numsOf X) k = new at ek HN
        go_wp2_with fail
        go_roundw
        case rel => exact ⟨k + 1, by go_num, by omega, HN.out, B0b.far (p := ⟨w.heap.size + 1, 2 + k, none⟩) (by simp) _, CAb.setCell (p := ⟨w.heap.size + 1, 2 + k, none⟩) (.inr (by simp)) _⟩
        case measure => simp [intOf]; omega
      · obtain rfl : k = 4 := by omega
        have hres : (numsOf X).take 4 ++ zeros.drop 4 = numsOf X ++ [0, 0, 0, 0, 0, 0, 0, 0, 0, 0, 0, 0] := by
          rw [List.take_of_length_le (by omega)]; first | rfl | simp [zeros]
        rw [hres] at B8b
        have hl16 : (numsOf X ++ [0, 0, 0, 0, 0, 0, 0, 0, 0, 0, 0, 0]).length = 16 := by simp [numsOf_length, hXs]
        clear hres
        go_wp2_with (first
          | (refine wpList_loadB rfl 26 _ rfl (w.heap.size + 1) 26 (tgtC (⟨#[]⟩, false, numsOf X ++ [0, 0, 0, 0, 0, 0, 0, 0, 0, 0, 0, 0], P)) _ rfl B8b Tryd.underlying26 rfl (tgt_inf hl16) ?_)
          | (refine wpList_storeB rfl 26 _ _ rfl w.heap.size 26 (tgtC tgt0) (tgtC (⟨#[]⟩, false, numsOf X ++ [0, 0, 0, 0, 0, 0, 0, 0, 0, 0, 0, 0], P)) rfl rfl B0b (tgt_inf hl16) ((tgt_len (t := tgt0) rfl).trans (tgt_len hl16).symm) (tgt_one _) ?_; intro w5 B5 C5 Z5))
        try simp only [Exit.inBlock, Exit.then]
        refine bodyPost_ret (results_row3 rfl _ _ rfl B5 Tryd.underlying26 rfl (tgt_inf hl16)) rfl ?_
        exact ⟨by rw [HP.out]; rfl, CAb.step C5 (fun i hi => .inr (by simp at hi; omega))⟩
  by_cases k4 : byt s 0 = 4
  case pos =>
    rw [k4] at e0
    by_cases h7 : s.size < 19
    case pos =>
      have HP := hid (parse_4s s hp k4 h7)
      have h7' : (s.size : Int) < 17 + 2 := by omega
      clear k4 k1
      go_enter Tryd.func32, Tryd.ntmps32
      go_wp2_with (refine wpList_storeB rfl 26 _ _ rfl w.heap.size 26 (tgtC tgt0) (tgtC tgt0) rfl rfl (by first | exact Blk.new _ _ _ | exact (Blk.new _ _ _).drewN _) (tgt_inf rfl) rfl rfl ?_; intro w2 B2 C2 Z2)
      try simp only [Exit.inBlock, Exit.then]
      refine bodyPost_ret (results_row3 rfl _ _ rfl B2 Tryd.underlying26 rfl (tgt_inf rfl)) rfl ?_
      exact ⟨by rw [HP.out]; rfl, ((Ch.refl [] w).alloc _).step C2 (fun i hi => .inr (by simp at hi; omega))⟩
    have HP0 := parse_4 s k4 (by omega)
    have p5 : 17 < s.size := by omega
    have p6 : 18 < s.size := by omega
    have e5 : ((s[17]'p5).toNat : Int) = byt s 17 := byt_get p5
    have e6 : ((s[18]'p6).toNat : Int) = byt s 18 := byt_get p6
    have r5 := byt_rng s 17
    have r6 := byt_rng s 18
    generalize byt s 17 = b5 at e5 r5 HP0
    generalize byt s 18 = b6 at e6 r6 HP0
    have ho := or256 b5 b6 (by omega) (by omega) (by omega) (by omega)
    obtain ⟨P, hP⟩ : ∃ P, b5 * 256 + b6 = P := ⟨_, rfl⟩
    rw [hP] at ho HP0
    obtain ⟨X, hX⟩ : ∃ X, s.extract 1 17 = X := ⟨_, rfl⟩
    have hXs : X.size = 16 := by rw [← hX, ByteArray.size_extract]; omega
    rw [hX] at HP0
    have HP := hid HP0
    have hl7 : ¬ (s.size : Int) < 17 + 2 := by omega
    have hb1 : (17 : Int) ≤ s.size := by omega
    clear HP0 k1 k4 hP
    go_enter Tryd.func32, Tryd.ntmps32
    go_wp2_with fail
    refine wp_region_stagesM [⟨0, 1, 2199023255552⟩, ⟨0, 128, 4398046511104⟩, ⟨2, 4398046511104, 8796093022208⟩, ⟨5, 10995116277760, 17592186044416⟩, ⟨8, 17592186044416, 35184372088832⟩, ⟨16, 35184372088832, 70368744177664⟩, ⟨0, 1, 140737488355328⟩, ⟨0, 128, 281474976710656⟩, ⟨128, 281474976710656, 562949953421312⟩, ⟨320, 703687441776640, 1125899906842624⟩, ⟨512, 1125899906842624, 2251799813685248⟩, ⟨1056, 2322168557862912, 4503599627370496⟩, ⟨2048, 4503599627370496, 9007199254740992⟩, ⟨0, 0, 256⟩, ⟨16383, 9007199254741248, 0⟩] [([0, 1, 2, 3, 4, 5, 6, 7, 8, 9, 10, 11, 12], 13, [0, 1, 2, 3, 4, 5, 6, 7, 8, 9, 10, 11, 12]), ([], 14, [])] [] (by kernel_rfl) (by kernel_rfl) ?_
    refine wpStages_step ?_
    simp only [pick, List.map_cons, List.map_nil, List.getD_cons_zero, List.getD_cons_succ]
    repeat (go_big_quiet_step (fail))
    refine wpQuiet_nil ?_
    intro n0
    simp only [pick, List.map_cons, List.map_nil, List.getD_cons_zero, List.getD_cons_succ]
    go_wp2
    have B0 : Blk (((w.alloc (.cells (tgtC tgt0).toArray 26)).drewN n0).alloc (.cells (tgtC tgt0).toArray 26)) w.heap.size 26 (tgtC tgt0) := ((Blk.new w _ _).drewN _).alloc _
    have B8 : Blk (((w.alloc (.cells (tgtC tgt0).toArray 26)).drewN n0).alloc (.cells (tgtC tgt0).toArray 26)) (w.heap.size + 1) 26 (tgtC tgt0) := Blk.newAt _ _ _ (by simp)
    have CA : Ch [] w (((w.alloc (.cells (tgtC tgt0).toArray 26)).drewN n0).alloc (.cells (tgtC tgt0).toArray 26)) := (((Ch.refl _ _).alloc _).drewN _).alloc _
    change stagePost _ _ _ _ _ _ (((w.alloc (.cells (tgtC tgt0).toArray 26)).drewN n0).alloc (.cells (tgtC tgt0).toArray 26))
    generalize (((w.alloc (.cells (tgtC tgt0).toArray 26)).drewN n0).alloc (.cells (tgtC tgt0).toArray 26)) = wA at B0 B8 CA ⊢
    refine stagePost_mk ?_ ?_
    · intro o ho
      simp only [pick, List.map_cons, List.map_nil, List.getD_cons_zero, List.getD_cons_succ, List.mem_cons, List.not_mem_nil, or_false] at ho
      rcases ho with rfl | rfl | rfl | rfl | rfl | rfl | rfl | rfl | rfl | rfl | rfl | rfl | rfl
      all_goals
        refine float_any ?_
        repeat (go_big_quiet_step (fail))
        refine wpQuiet_nil ?_
        rfl
    refine wpStages_step ?_
    simp only [pick, List.map_nil]
    refine wpQuiet_nil ?_
    intro n1
    simp only [pick, List.map_cons, List.map_nil, List.getD_cons_zero, List.getD_cons_succ]
    go_wp2_with (refine wpList_storeB rfl 26 _ _ rfl (w.heap.size + 1) 26 (tgtC tgt0) (tgtC (⟨#[]⟩, false, zeros, P)) rfl rfl (B8.drewN n1) (tgt_inf rfl) rfl rfl ?_; intro w3 B8' C3 Z3)
    have B0' := (B0.drewN n1).ch C3 (by simp)
    have CA3 : Ch [] w w3 := (CA.drewN n1).step C3 (fun i hi => .inr (by simp at hi; omega))
    refine stagePost_mk (by simp [pick]) ?_
    refine wpStages_last ?_
    simp only [pick, List.map_nil]
    refine wpQuiet_nil ?_
    intro n2
    have c1 : w3.cell? ⟨w.heap.size + 1, 1, none⟩ = some (.bool false) := B8'.cell 1
    have f1 := B8'.frozen 1
    clear B0 B8 CA C3
    go_wp2_with fail
    have B8b : Blk ((w3.drewN n2).setCell ⟨w.heap.size + 1, 1, none⟩ (.bool true)) (w.heap.size + 1) 26 (tgtC (⟨#[]⟩, true, zeros, P)) := (B8'.drewN n2).set 1 _
    have B0b : Blk ((w3.drewN n2).setCell ⟨w.heap.size + 1, 1, none⟩ (.bool true)) w.heap.size 26 (tgtC tgt0) := (B0'.drewN n2).far (p := ⟨w.heap.size + 1, 1, none⟩) (by simp) _
    have CAb : Ch [] w ((w3.drewN n2).setCell ⟨w.heap.size + 1, 1, none⟩ (.bool true)) := (CA3.drewN n2).setCell (p := ⟨w.heap.size + 1, 1, none⟩) (.inr (by simp)) _
    generalize ((w3.drewN n2).setCell ⟨w.heap.size + 1, 1, none⟩ (.bool true)) = wB at B8b B0b CAb ⊢
    clear B8' B0' CA3 c1 f1
    have hnx : (numsOf X).length = 16 := by rw [numsOf_length, hXs]
    go_loopw [9] (fun i wr => ∃ k : Nat, i = .int .i64 k ∧ k ≤ 16 ∧ Blk wr (w.heap.size + 1) 26 (tgtC (⟨#[]⟩, true, (numsOf X).take k ++ zeros.drop k, P)) ∧ Blk wr w.heap.size 26 (tgtC tgt0) ∧ Ch [] w wr) (fun i _ => 16 - (intOf i).toNat)
    case atStart => exact ⟨0, rfl, by omega, B8b, B0b, CAb⟩
    case round =>
      clear B8b B0b CAb
      obtain ⟨k, rfl, hk, B8b, B0b, CAb⟩ := hrel
      by_cases hkl : k < 16
      · have hlz : ((numsOf X).take k ++ zeros.drop k).length = 16 := by
          have : zeros.length = 16 := rfl
          rw [List.length_append, List.length_take, List.length_drop]; omega
        have hks : 1 + k < s.size := by omega
        have ek : ((s[1 + k]'hks).toNat : Int) = byt s (1 + k) := byt_get hks
        have eX : byt s (1 + k) = at_ (numsOf X) k := by
          rw [← byt_at (by omega), ← hX, byt_extract (by omega) (by omega)]
        rw [eX] at ek
        have q1 : ((1 : Int) + k).toNat = 1 + k := by omega
        have hcell : wr.cell? ⟨w.heap.size + 1, 2 + k, none⟩ = some (.int .u8 (((numsOf X).take k ++ zeros.drop k)[k]'(by omega))) := (B8b.cell (2 + k)).trans (targ_byte (name := ⟨#[]⟩) (six := true) (bs := (numsOf X).take k ++ zeros.drop k) (port := P) k (by omega))
        have hfro := B8b.frozen (2 + k)
        have BN := B8b.set (2 + k) (.int .u8 (at_ (numsOf X) k))
        have hset : (tgtC (⟨#[]⟩, true, (numsOf X).take k ++ zeros.drop k, P)).set (2 + k) (.int .u8 (at_ (numsOf X) k)) = tgtC (⟨#[]⟩, true, (numsOf X).take (k + 1) ++ zeros.drop (k + 1), P) := by
          have h1 := targ_set ⟨#[]⟩ true ((numsOf X).take k ++ zeros.drop k) P k (by omega) (at_ (numsOf X) k)
          rw [fill_set _ _ _ (by omega) (by show k < 16; omega)] at h1
          exact h1
        rw [hset] at BN
        have HN := hid BN
        clear BN hset eX
        generalize ((numsOf X).take k ++ zeros.drop k)[k]'(by omega) = old at hcell
        generalize at_ (numsOf X) k = new at ek HN
        go_wp2_with fail
        go_roundw
        case rel => exact ⟨k + 1, by go_num, by omega, HN.out, B0b.far (p := ⟨w.heap.size + 1, 2 + k, none⟩) (by simp) _, CAb.setCell (p := ⟨w.heap.size + 1, 2 + k, none⟩) (.inr (by simp)) _⟩
        case measure => simp [intOf]; omega
      · obtain rfl : k = 16 := by omega
        have hres : (numsOf X).take 16 ++ zeros.drop 16 = numsOf X := by
          rw [List.take_of_length_le (by omega)]; first | rfl | simp [zeros]
        rw [hres] at B8b
        have hl16 : (numsOf X).length = 16 := by simp [numsOf_length, hXs]
        clear hres
        go_wp2_with (first
          | (refine wpList_loadB rfl 26 _ rfl (w.heap.size + 1) 26 (tgtC (⟨#[]⟩, true, numsOf X, P)) _ rfl B8b Tryd.underlying26 rfl (tgt_inf hl16) ?_)
          | (refine wpList_storeB rfl 26 _ _ rfl w.heap.size 26 (tgtC tgt0) (tgtC (⟨#[]⟩, true, numsOf X, P)) rfl rfl B0b (tgt_inf hl16) ((tgt_len (t := tgt0) rfl).trans (tgt_len hl16).symm) (tgt_one _) ?_; intro w5 B5 C5 Z5))
        try simp only [Exit.inBlock, Exit.then]
        refine bodyPost_ret (results_row3 rfl _ _ rfl B5 Tryd.underlying26 rfl (tgt_inf hl16)) rfl ?_
        exact ⟨by rw [HP.out]; rfl, CAb.step C5 (fun i hi => .inr (by simp at hi; omega))⟩
  by_cases k3 : byt s 0 = 3
  case neg =>
    have HP := hid (parse_x s hp k1 k4 k3)
    have d1 : (byt s 0 == 1) = false := by simpa using k1
    have d4 : (byt s 0 == 4) = false := by simpa using k4
    have d3 : (byt s 0 == 3) = false := by simpa using k3
    generalize byt s 0 = x at e0 d1 d3 d4
    clear k1 k3 k4
    go_enter Tryd.func32, Tryd.ntmps32
    go_wp2_with (refine wpList_storeB rfl 26 _ _ rfl w.heap.size 26 (tgtC tgt0) (tgtC tgt0) rfl rfl (by first | exact Blk.new _ _ _ | exact (Blk.new _ _ _).drewN _) (tgt_inf rfl) rfl rfl ?_; intro w2 B2 C2 Z2)
    try simp only [Exit.inBlock, Exit.then]
    refine bodyPost_ret (results_row3 rfl _ _ rfl B2 Tryd.underlying26 rfl (tgt_inf rfl)) rfl ?_
    exact ⟨by rw [HP.out]; rfl, ((Ch.refl [] w).alloc _).step C2 (fun i hi => .inr (by simp at hi; omega))⟩
  rw [k3] at e0
  by_cases h2 : 2 ≤ s.size
  case neg =>
    have HP := hid (parse_3a s (by omega) k3)
    have h2' : (s.size : Int) < 2 := by omega
    clear k1 k3 k4
    go_enter Tryd.func32, Tryd.ntmps32
    go_wp2_with (refine wpList_storeB rfl 26 _ _ rfl w.heap.size 26 (tgtC tgt0) (tgtC tgt0) rfl rfl (by first | exact Blk.new _ _ _ | exact (Blk.new _ _ _).drewN _) (tgt_inf rfl) rfl rfl ?_; intro w2 B2 C2 Z2)
    try simp only [Exit.inBlock, Exit.then]
    refine bodyPost_ret (results_row3 rfl _ _ rfl B2 Tryd.underlying26 rfl (tgt_inf rfl)) rfl ?_
    exact ⟨by rw [HP.out]; rfl, ((Ch.refl [] w).alloc _).step C2 (fun i hi => .inr (by simp at hi; omega))⟩
  have hp1 : 1 < s.size := by omega
  have e1 : ((s[1]'hp1).toNat : Int) = byt s 1 := byt_get hp1
  obtain ⟨n, hn⟩ : ∃ n : Nat, byt s 1 = n := ⟨(byt s 1).toNat, by have := byt_rng s 1; omega⟩
  have hn255 : n ≤ 255 := by have := byt_rng s 1; omega
  by_cases hz : n = 0
  case pos =>
    subst hz
    have HP := hid (parse_3m s h2 k3 hn)
    rw [hn] at e1
    have e1' : ((s[1]'hp1).toNat : Int) = 0 := e1
    clear k1 k3 k4 hn
    go_enter Tryd.func32, Tryd.ntmps32
    go_wp2_with fail
    go_quiet (fail)
    go_wp2_with (refine wpList_storeB rfl 26 _ _ rfl w.heap.size 26 (tgtC tgt0) (tgtC tgt0) rfl rfl (by first | exact Blk.new _ _ _ | exact (Blk.new _ _ _).drewN _) (tgt_inf rfl) rfl rfl ?_; intro w2 B2 C2 Z2)
    try simp only [Exit.inBlock, Exit.then]
    refine bodyPost_ret (results_row3 rfl _ _ rfl B2 Tryd.underlying26 rfl (tgt_inf rfl)) rfl ?_
    exact ⟨by rw [HP.out]; rfl, (((Ch.refl [] w).alloc _).drewN _).step C2 (fun i hi => .inr (by simp at hi; omega))⟩
  by_cases hl : s.size < n + 4
  case pos =>
    have HP := hid (parse_3s s n h2 k3 hn hz hl)
    rw [hn] at e1
    have hz' : ((n : Int) == 0) = false := by simp; omega
    have hl' : (s.size : Int) < 2 + (n : Int) + 2 := by omega
    clear k1 k3 k4 hn
    go_enter Tryd.func32, Tryd.ntmps32
    go_wp2_with fail
    go_quiet (fail)
    go_wp2_with (refine wpList_storeB rfl 26 _ _ rfl w.heap.size 26 (tgtC tgt0) (tgtC tgt0) rfl rfl (by first | exact Blk.new _ _ _ | exact (Blk.new _ _ _).drewN _) (tgt_inf rfl) rfl rfl ?_; intro w2 B2 C2 Z2)
    try simp only [Exit.inBlock, Exit.then]
    refine bodyPost_ret (results_row3 rfl _ _ rfl B2 Tryd.underlying26 rfl (tgt_inf rfl)) rfl ?_
    exact ⟨by rw [HP.out]; rfl, (((Ch.refl [] w).alloc _).drewN _).step C2 (fun i hi => .inr (by simp at hi; omega))⟩
  have HP0 := parse_3 s n k3 hn hz (by omega)
  have p5 : 2 + n < s.size := by omega
  have p6 : 2 + n + 1 < s.size := by omega
  have e5 : ((s[2 + n]'p5).toNat : Int) = byt s (2 + n) := byt_get p5
  have e6 : ((s[2 + n + 1]'p6).toNat : Int) = byt s (2 + n + 1) := byt_get p6
  have r5 := byt_rng s (2 + n)
  have r6 := byt_rng s (2 + n + 1)
  generalize byt s (2 + n) = b5 at e5 r5 HP0
  generalize byt s (2 + n + 1) = b6 at e6 r6 HP0
  have ho := or256 b5 b6 (by omega) (by omega) (by omega) (by omega)
  obtain ⟨P, hP⟩ : ∃ P, b5 * 256 + b6 = P := ⟨_, rfl⟩
  rw [hP] at ho HP0
  obtain ⟨X, hX⟩ : ∃ X, s.extract 2 (2 + n) = X := ⟨_, rfl⟩
  rw [hX] at HP0
  have HP := hid HP0
  rw [hn] at e1
  have hz' : ((n : Int) == 0) = false := by simp; omega
  have hl7 : ¬ (s.size : Int) < 2 + n + 2 := by omega
  have hb1 : (2 : Int) + n ≤ s.size := by omega
  have hb3 : (2 : Int) ≤ 2 + n := by omega
  have hb2 : (2 : Int) + n < s.size ∧ (2 : Int) + n + 1 < s.size := by omega
  have q1 : ((2 : Int) + n).toNat = 2 + n := by omega
  have q5 : (2 : Int) + n + 2 - 2 = 2 + n := by omega
  have q6 : (2 : Int) + n + 2 - 1 = 2 + n + 1 := by omega
  have q2 : ((2 : Int) + n + 1).toNat = 2 + n + 1 := by omega
  clear HP0 k1 k4 k3 hn hP
  go_enter Tryd.func32, Tryd.ntmps32
  go_wp2_with fail
  go_quiet (fail)
  go_wp2_with fail
  refine wp_region_stagesM [⟨0, 1, 2199023255552⟩, ⟨0, 128, 4398046511104⟩, ⟨2, 4398046511104, 8796093022208⟩, ⟨5, 10995116277760, 17592186044416⟩, ⟨8, 17592186044416, 35184372088832⟩, ⟨16, 35184372088832, 70368744177664⟩, ⟨0, 1, 140737488355328⟩, ⟨0, 128, 281474976710656⟩, ⟨128, 281474976710656, 562949953421312⟩, ⟨320, 703687441776640, 1125899906842624⟩, ⟨512, 1125899906842624, 2251799813685248⟩, ⟨1056, 2322168557862912, 4503599627370496⟩, ⟨2048, 4503599627370496, 9007199254740992⟩, ⟨0, 0, 256⟩, ⟨16383, 9007199254741248, 0⟩] [([0, 1, 2, 3, 4, 5, 6, 7, 8, 9, 10, 11, 12], 13, [0, 1, 2, 3, 4, 5, 6, 7, 8, 9, 10, 11, 12]), ([], 14, [])] [] (by kernel_rfl) (by kernel_rfl) ?_
  refine wpStages_step ?_
  simp only [pick, List.map_cons, List.map_nil, List.getD_cons_zero, List.getD_cons_succ]
  repeat (go_big_quiet_step (fail))
  refine wpQuiet_nil ?_
  intro n0
  simp only [pick, List.map_cons, List.map_nil, List.getD_cons_zero, List.getD_cons_succ]
  go_wp2
  have B0 : Blk (((w.alloc (.cells (tgtC tgt0).toArray 26)).drewN (nq + n0)).alloc (.cells (tgtC tgt0).toArray 26)) w.heap.size 26 (tgtC tgt0) := ((Blk.new w _ _).drewN _).alloc _
  have B8 : Blk (((w.alloc (.cells (tgtC tgt0).toArray 26)).drewN (nq + n0)).alloc (.cells (tgtC tgt0).toArray 26)) (w.heap.size + 1) 26 (tgtC tgt0) := Blk.newAt _ _ _ (by simp)
  have CA : Ch [] w (((w.alloc (.cells (tgtC tgt0).toArray 26)).drewN (nq + n0)).alloc (.cells (tgtC tgt0).toArray 26)) := (((Ch.refl _ _).alloc _).drewN _).alloc _
  change stagePost _ _ _ _ _ _ (((w.alloc (.cells (tgtC tgt0).toArray 26)).drewN (nq + n0)).alloc (.cells (tgtC tgt0).toArray 26))
  generalize (((w.alloc (.cells (tgtC tgt0).toArray 26)).drewN (nq + n0)).alloc (.cells (tgtC tgt0).toArray 26)) = wA at B0 B8 CA ⊢
  refine stagePost_mk ?_ ?_
  · intro o ho
    simp only [pick, List.map_cons, List.map_nil, List.getD_cons_zero, List.getD_cons_succ, List.mem_cons, List.not_mem_nil, or_false] at ho
    rcases ho with rfl | rfl | rfl | rfl | rfl | rfl | rfl | rfl | rfl | rfl | rfl | rfl | rfl
    all_goals
      refine float_any ?_
      repeat (go_big_quiet_step (fail))
      refine wpQuiet_nil ?_
      rfl
  refine wpStages_step ?_
  simp only [pick, List.map_nil]
  refine wpQuiet_nil ?_
  intro n1
  simp only [pick, List.map_cons, List.map_nil, List.getD_cons_zero, List.getD_cons_succ]
  go_wp2_with (refine wpList_storeB rfl 26 _ _ rfl (w.heap.size + 1) 26 (tgtC tgt0) (tgtC (⟨#[]⟩, false, zeros, P)) rfl rfl (B8.drewN n1) (tgt_inf rfl) rfl rfl ?_; intro w3 B8' C3 Z3)
  have B0' := (B0.drewN n1).ch C3 (by simp)
  have CA3 : Ch [] w w3 := (CA.drewN n1).step C3 (fun i hi => .inr (by simp at hi; omega))
  refine stagePost_mk (by simp [pick]) ?_
  refine wpStages_last ?_
  simp only [pick, List.map_nil]
  refine wpQuiet_nil ?_
  intro n2
  have c1 : w3.cell? ⟨w.heap.size + 1, 0, none⟩ = some (.string ⟨#[]⟩) := B8'.cell 0
  have f1 := B8'.frozen 0
  have B8b : Blk ((w3.drewN n2).setCell ⟨w.heap.size + 1, 0, none⟩ (.string X)) (w.heap.size + 1) 26 (tgtC (X, false, zeros, P)) := (B8'.drewN n2).set 0 _
  have B0b : Blk ((w3.drewN n2).setCell ⟨w.heap.size + 1, 0, none⟩ (.string X)) w.heap.size 26 (tgtC tgt0) := (B0'.drewN n2).far (p := ⟨w.heap.size + 1, 0, none⟩) (by simp) _
  have CAb : Ch [] w ((w3.drewN n2).setCell ⟨w.heap.size + 1, 0, none⟩ (.string X)) := (CA3.drewN n2).setCell (p := ⟨w.heap.size + 1, 0, none⟩) (.inr (by simp)) _
  clear B0 B8 CA C3
  go_wp2_with (first
    | (refine wpList_loadB rfl 26 _ rfl (w.heap.size + 1) 26 (tgtC (X, false, zeros, P)) _ rfl B8b Tryd.underlying26 rfl (tgt_inf rfl) ?_)
    | (refine wpList_storeB rfl 26 _ _ rfl w.heap.size 26 (tgtC tgt0) (tgtC (X, false, zeros, P)) rfl rfl B0b (tgt_inf rfl) rfl (tgt_one _) ?_; intro w5 B5 C5 Z5))
  try simp only [Exit.inBlock, Exit.then]
  refine bodyPost_ret (results_row3 rfl _ _ rfl B5 Tryd.underlying26 rfl (tgt_inf rfl)) rfl ?_
  have hq : (2 : Int) + n + 2 = n + 4 := by omega
  exact ⟨by rw [HP.out]; exact congrArg (fun z => Ending.returned (.tuple #[.agg (tgtC (X, false, zeros, P)).toArray, .int .i64 z, .int .i64 1])) hq, CAb.step C5 (fun i hi => .inr (by simp at hi; omega))⟩
end Go.Proofs.YtiffpjlmgeklkaaDoor
