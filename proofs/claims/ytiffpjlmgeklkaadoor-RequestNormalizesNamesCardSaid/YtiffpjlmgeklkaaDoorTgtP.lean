/- reply.ParseTarget (printed by mk_tgtp.py). -/
import Derived.Test.YtiffpjlmgeklkaaDoorTgt
import Derived.Test.YtiffpjlmgeklkaaDoorRow
import Derived.Test.YtiffpjlmgeklkaaDoorStages4
import Derived.BigQuiet
namespace Go.Proofs.YtiffpjlmgeklkaaDoor
open Go.RowKit

theorem tgt_info : (Tryd.prog.info? 26).map (·.size) = some 19 := by kernel_rfl
theorem tgt_len {t : Tgt} (h : t.2.2.1.length = 16) : (tgtC t).length = 19 := by
  unfold tgtC targC addrC
  simp [h]
theorem tgt_inf {t : Tgt} (h : t.2.2.1.length = 16) : (Tryd.prog.info? 26).map (·.size) = some (tgtC t).length := by rw [tgt_len h]; exact tgt_info
theorem addr_one (six : Bool) (bs : List Int) : ∀ v ∈ addrC six bs, v.oneCell' = true := by
  intro v hv
  rcases List.mem_cons.1 hv with rfl | h
  · rfl
  · obtain ⟨z, _, rfl⟩ := List.mem_map.1 h; rfl
theorem tgt_one (t : Tgt) : (tgtC t).all (·.oneCell') = true := by
  rw [List.all_eq_true]
  intro v hv
  rcases List.mem_cons.1 hv with rfl | h
  · rfl
  · rcases List.mem_append.1 h with h | h
    · exact addr_one _ _ v h
    · rw [List.mem_singleton] at h; subst h; rfl
theorem u8_size : (Tryd.prog.info? 5).map (·.size) = some 1 := by kernel_rfl
theorem isEmp {s : ByteArray} (h : s.size = 0) : s.toList = [] := by
  rw [ByteArray.toList_eq]; exact List.eq_nil_of_length_eq_zero (by rw [Array.length_toList]; exact h)
theorem notEmp {s : ByteArray} (h : 0 < s.size) : s.toList.isEmpty = false := by
  rw [Bool.eq_false_iff]
  intro e
  rw [ByteArray.toList_eq, List.isEmpty_iff] at e
  have h1 : s.data.toList.length = 0 := by rw [e]; rfl
  rw [Array.length_toList] at h1
  have h2 : s.data.size = s.size := rfl
  omega

set_option maxRecDepth 100000 in
set_option maxHeartbeats 4000000 in
theorem parseTP (s : ByteArray) (hs : s.size ≤ 1000000000000000) (w : World) : Calls Tryd.prog 14 #[.string s] w fun e w' => e = .returned (tgV (parseT (numsOf s))) ∧ Ch [] w w' := by
  by_cases h0 : s.size = 0
  case pos =>
    have HP := hid (parse_e s h0)
    have he := isEmp h0
    clear h0
    go_enter Tryd.func14, Tryd.ntmps14
    go_wp2_with (refine wpList_storeB rfl 26 _ _ rfl w.heap.size 26 (tgtC tgt0) (tgtC tgt0) rfl rfl (by first | exact Blk.new _ _ _ | exact (Blk.new _ _ _).drewN _) (tgt_inf rfl) rfl rfl ?_; intro w2 B2 C2 Z2)
    try simp only [Exit.inBlock, Exit.then]
    refine bodyPost_ret (results_row3 rfl _ _ rfl B2 Tryd.underlying26 rfl (tgt_inf rfl)) rfl ?_
    exact ⟨by rw [HP.out]; rfl, ((Ch.refl [] w).alloc _).step C2 (fun i hi => .inr (by simp at hi; omega))⟩
  have hp : 0 < s.size := by omega
  have i0 := notEmp hp
  have e0 : ((s[0]'hp).toNat : Int) = byt s 0 := byt_get hp
  by_cases k1 : byt s 0 = 1
  case pos =>
    rw [k1] at e0
    by_cases h7 : s.size < 7
    case pos =>
      have HP := hid (parse_1s s hp k1 h7)
      have h7' : (s.size : Int) < 5 + 2 := by omega
      clear k1
      go_enter Tryd.func14, Tryd.ntmps14
      go_wp2_with (refine wpList_storeB rfl 26 _ _ rfl w.heap.size 26 (tgtC tgt0) (tgtC tgt0) rfl rfl (by first | exact Blk.new _ _ _ | exact (Blk.new _ _ _).drewN _) (tgt_inf rfl) rfl rfl ?_; intro w2 B2 C2 Z2)
      try simp only [Exit.inBlock, Exit.then]
      refine bodyPost_ret (results_row3 rfl _ _ rfl B2 Tryd.underlying26 rfl (tgt_inf rfl)) rfl ?_
      exact ⟨by rw [HP.out]; rfl, ((Ch.refl [] w).alloc _).step C2 (fun i hi => .inr (by simp at hi; omega))⟩
    have HP0 := parse_1 s k1 (by omega)
    have p5 : 5 < s.size := by omega
    have p6 : 6 < s.size := by omega
    have e5 : ((s[5]'p5).toNat : Int) = byt s 5 := byt_get p5
    have e6 : ((s[6]'p6).toNat : Int) = byt s 6 := byt_get p6
    have r5 := byt_rng s 5
    have r6 := byt_rng s 6
    generalize byt s 5 = b5 at e5 r5 HP0
    generalize byt s 6 = b6 at e6 r6 HP0
    have ho := or256 b5 b6 (by omega) (by omega) (by omega) (by omega)
    obtain ⟨P, hP⟩ : ∃ P, b5 * 256 + b6 = P := ⟨_, rfl⟩
    rw [hP] at ho HP0
    obtain ⟨X, hX⟩ : ∃ X, s.extract 1 5 = X := ⟨_, rfl⟩
    have hXs : X.size = 4 := by rw [← hX, ByteArray.size_extract]; omega
    rw [hX] at HP0
    have HP := hid HP0
    have hl7 : ¬ (s.size : Int) < 5 + 2 := by omega
    have hb1 : (5 : Int) ≤ s.size := by omega
    clear HP0 k1 hP
    go_enter Tryd.func14, Tryd.ntmps14
    go_wp2_with fail
    refine wp_region_stagesM [⟨0, 1, 2199023255552⟩, ⟨0, 128, 4398046511104⟩, ⟨3, 6597069766656, 8796093022208⟩, ⟨4, 8796093022208, 17592186044416⟩, ⟨8, 17592186044416, 35184372088832⟩, ⟨0, 1, 70368744177664⟩, ⟨0, 128, 140737488355328⟩, ⟨64, 140737488355328, 281474976710656⟩, ⟨160, 351843720888320, 562949953421312⟩, ⟨256, 562949953421312, 1125899906842624⟩, ⟨528, 1161084278931456, 2251799813685248⟩, ⟨1024, 2251799813685248, 4503599627370496⟩, ⟨0, 0, 256⟩, ⟨8191, 4503599627370752, 0⟩] [([0, 1, 2, 3, 4, 5, 6, 7, 8, 9, 10, 11], 12, [0, 1, 2, 3, 4, 5, 6, 7, 8, 9, 10, 11]), ([], 13, [])] [] (by kernel_rfl) (by kernel_rfl) ?_
    refine wpStages_step ?_
    simp only [pick, List.map_cons, List.map_nil, List.getD_cons_zero, List.getD_cons_succ]
    repeat (go_big_quiet_step (fail))
    refine wpQuiet_nil ?_
    intro n0
    simp only [pick, List.map_cons, List.map_nil, List.getD_cons_zero, List.getD_cons_succ]
    go_wp2
    have B0 : Blk (((w.alloc (.cells (tgtC tgt0).toArray 26)).drewN n0).alloc (.cells (tgtC tgt0).toArray 26)) w.heap.size 26 (tgtC tgt0) := ((Blk.new w _ _).drewN _).alloc _
    have B8 : Blk (((w.alloc (.cells (tgtC tgt0).toArray 26)).drewN n0).alloc (.cells (tgtC tgt0).toArray 26)) (w.heap.size + 1) 26 (tgtC tgt0) := Blk.newAt _ _ _ (by simp)
    have CA : Ch [] w (((w.alloc (.cells (tgtC tgt0).toArray 26)).drewN n0).alloc (.cells (tgtC tgt0).toArray 26)) := (((Ch.refl _ _).alloc _).drewN _).alloc _
    change stagePost _ _ _ _ _ _ (((w.alloc (.cells (tgtC tgt0).toArray 26)).drewN n0).alloc (.cells (tgtC tgt0).toArray 26))
    generalize (((w.alloc (.cells (tgtC tgt0).toArray 26)).drewN n0).alloc (.cells (tgtC tgt0).toArray 26)) = wA at B0 B8 CA ⊢
    refine stagePost_mk ?_ ?_
    · intro o ho
      simp only [pick, List.map_cons, List.map_nil, List.getD_cons_zero, List.getD_cons_succ, List.mem_cons, List.not_mem_nil, or_false] at ho
      rcases ho with rfl | rfl | rfl | rfl | rfl | rfl | rfl | rfl | rfl | rfl | rfl | rfl
      all_goals
        refine float_any ?_
        repeat (go_big_quiet_step (fail))
        refine wpQuiet_nil ?_
        rfl
    refine wpStages_step ?_
    simp only [pick, List.map_nil]
    refine wpQuiet_nil ?_
    intro n1
    simp only [pick, List.map_cons, List.map_nil, List.getD_cons_zero, List.getD_cons_succ]
    go_wp2_with (refine wpList_storeB rfl 26 _ _ rfl (w.heap.size + 1) 26 (tgtC tgt0) (tgtC (⟨#[]⟩, false, zeros, P)) rfl rfl (B8.drewN n1) (tgt_inf rfl) rfl rfl ?_; intro w3 B8' C3 Z3)
    have B0' := (B0.drewN n1).ch C3 (by simp)
    have CA3 : Ch [] w w3 := (CA.drewN n1).step C3 (fun i hi => .inr (by simp at hi; omega))
    refine stagePost_mk (by simp [pick]) ?_
    refine wpStages_last ?_
    simp only [pick, List.map_nil]
    refine wpQuiet_nil ?_
    intro n2
    have c1 : w3.cell? ⟨w.heap.size + 1, 1, none⟩ = some (.bool false) := B8'.cell 1
    have f1 := B8'.frozen 1
    clear B0 B8 CA C3
    go_wp2_with fail
    have B8b : Blk ((w3.drewN n2).setCell ⟨w.heap.size + 1, 1, none⟩ (.bool false)) (w.heap.size + 1) 26 (tgtC (⟨#[]⟩, false, zeros, P)) := (B8'.drewN n2).set 1 _
    have B0b : Blk ((w3.drewN n2).setCell ⟨w.heap.size + 1, 1, none⟩ (.bool false)) w.heap.size 26 (tgtC tgt0) := (B0'.drewN n2).far (p := ⟨w.heap.size + 1, 1, none⟩) (by simp) _
    have CAb : Ch [] w ((w3.drewN n2).setCell ⟨w.heap.size + 1, 1, none⟩ (.bool false)) := (CA3.drewN n2).setCell (p := ⟨w.heap.size + 1, 1, none⟩) (.inr (by simp)) _
    generalize ((w3.drewN n2).setCell ⟨w.heap.size + 1, 1, none⟩ (.bool false)) = wB at B8b B0b CAb ⊢
    clear B8' B0' CA3 c1 f1
    refine wp_region_stagesM [⟨0, 256, 73786976294838206464⟩, ⟨1, 73786976294838206464, 147573952589676412928⟩, ⟨2, 147573952589676412928, 295147905179352825856⟩, ⟨0, 1, 590295810358705651712⟩, ⟨0, 32, 1180591620717411303424⟩, ⟨0, 128, 2361183241434822606848⟩, ⟨56, 4132070672510939561984, 4722366482869645213696⟩, ⟨68, 5017514388048998039552, 9444732965739290427392⟩] [([0, 1, 2, 3, 4, 5, 6], 7, [])] [] (by kernel_rfl) (by kernel_rfl) ?_
    refine wpStages_step ?_
    simp only [pick, List.map_cons, List.map_nil, List.getD_cons_zero, List.getD_cons_succ]
    repeat (go_big_quiet_step (fail))
    refine wpQuiet_nil ?_
    intro n3
    simp only [pick, List.map_cons, List.map_nil, List.getD_cons_zero, List.getD_cons_succ]
    go_wp2_with (refine wpList_copyStr rfl _ _ 34 9 rfl (w.heap.size + 1) 2 16 16 X 26 5 (tgtC (⟨#[]⟩, false, zeros, P)) rfl rfl (B8b.drewN n3) Tryd.underlying34 u8_size (by omega) (by rw [tgt_len rfl]; omega) ?_; intro w4 B8c C4 Z4)
    rw [hXs] at B8c
    have hcs : (tgtC (⟨#[]⟩, false, zeros, P)).take 2 ++ (numsOf X).map (Value.int .u8) ++ (tgtC (⟨#[]⟩, false, zeros, P)).drop (2 + 4) = tgtC (⟨#[]⟩, false, numsOf X ++ [0, 0, 0, 0, 0, 0, 0, 0, 0, 0, 0, 0], P) := by simp [tgtC, targC, addrC, zeros]
    rw [hcs] at B8c
    have B0c := (B0b.drewN n3).ch C4 (by simp)
    have CA4 : Ch [] w w4 := (CAb.drewN n3).step C4 (fun i hi => .inr (by simp at hi; omega))
    have hl16 : (numsOf X ++ [0, 0, 0, 0, 0, 0, 0, 0, 0, 0, 0, 0]).length = 16 := by simp [numsOf_length, hXs]
    clear B0b B8b CAb C4 hcs
    refine stagePost_mk ?_ ?_
    · intro o ho; simp [pick] at ho
    refine wpStages_last ?_
    simp only [pick, List.map_nil]
    refine wpQuiet_nil ?_
    intro n4
    go_wp2_with (first
      | (refine wpList_loadB rfl 26 _ rfl (w.heap.size + 1) 26 (tgtC (⟨#[]⟩, false, numsOf X ++ [0, 0, 0, 0, 0, 0, 0, 0, 0, 0, 0, 0], P)) _ rfl (B8c.drewN n4) Tryd.underlying26 rfl (tgt_inf hl16) ?_)
      | (refine wpList_storeB rfl 26 _ _ rfl w.heap.size 26 (tgtC tgt0) (tgtC (⟨#[]⟩, false, numsOf X ++ [0, 0, 0, 0, 0, 0, 0, 0, 0, 0, 0, 0], P)) rfl rfl (B0c.drewN n4) (tgt_inf hl16) ((tgt_len (t := tgt0) rfl).trans (tgt_len hl16).symm) (tgt_one _) ?_; intro w5 B5 C5 Z5))
    try simp only [Exit.inBlock, Exit.then]
    refine bodyPost_ret (results_row3 rfl _ _ rfl B5 Tryd.underlying26 rfl (tgt_inf hl16)) rfl ?_
    exact ⟨by rw [HP.out]; rfl, (CA4.drewN n4).step C5 (fun i hi => .inr (by simp at hi; omega))⟩
  by_cases k4 : byt s 0 = 4
  case pos =>
    rw [k4] at e0
    by_cases h7 : s.size < 19
    case pos =>
      have HP := hid (parse_4s s hp k4 h7)
      have h7' : (s.size : Int) < 17 + 2 := by omega
      clear k4 k1
      go_enter Tryd.func14, Tryd.ntmps14
      go_wp2_with (refine wpList_storeB rfl 26 _ _ rfl w.heap.size 26 (tgtC tgt0) (tgtC tgt0) rfl rfl (by first | exact Blk.new _ _ _ | exact (Blk.new _ _ _).drewN _) (tgt_inf rfl) rfl rfl ?_; intro w2 B2 C2 Z2)
      try simp only [Exit.inBlock, Exit.then]
      refine bodyPost_ret (results_row3 rfl _ _ rfl B2 Tryd.underlying26 rfl (tgt_inf rfl)) rfl ?_
      exact ⟨by rw [HP.out]; rfl, ((Ch.refl [] w).alloc _).step C2 (fun i hi => .inr (by simp at hi; omega))⟩
    have HP0 := parse_4 s k4 (by omega)
    have p5 : 17 < s.size := by omega
    have p6 : 18 < s.size := by omega
    have e5 : ((s[17]'p5).toNat : Int) = byt s 17 := byt_get p5
    have e6 : ((s[18]'p6).toNat : Int) = byt s 18 := byt_get p6
    have r5 := byt_rng s 17
    have r6 := byt_rng s 18
    generalize byt s 17 = b5 at e5 r5 HP0
    generalize byt s 18 = b6 at e6 r6 HP0
    have ho := or256 b5 b6 (by omega) (by omega) (by omega) (by omega)
    obtain ⟨P, hP⟩ : ∃ P, b5 * 256 + b6 = P := ⟨_, rfl⟩
    rw [hP] at ho HP0
    obtain ⟨X, hX⟩ : ∃ X, s.extract 1 17 = X := ⟨_, rfl⟩
    have hXs : X.size = 16 := by rw [← hX, ByteArray.size_extract]; omega
    rw [hX] at HP0
    have HP := hid HP0
    have hl7 : ¬ (s.size : Int) < 17 + 2 := by omega
    have hb1 : (17 : Int) ≤ s.size := by omega
    clear HP0 k1 k4 hP
    go_enter Tryd.func14, Tryd.ntmps14
    go_wp2_with fail
    refine wp_region_stagesM [⟨0, 1, 2199023255552⟩, ⟨0, 128, 4398046511104⟩, ⟨3, 6597069766656, 8796093022208⟩, ⟨4, 8796093022208, 17592186044416⟩, ⟨8, 17592186044416, 35184372088832⟩, ⟨0, 1, 70368744177664⟩, ⟨0, 128, 140737488355328⟩, ⟨64, 140737488355328, 281474976710656⟩, ⟨160, 351843720888320, 562949953421312⟩, ⟨256, 562949953421312, 1125899906842624⟩, ⟨528, 1161084278931456, 2251799813685248⟩, ⟨1024, 2251799813685248, 4503599627370496⟩, ⟨0, 0, 256⟩, ⟨8191, 4503599627370752, 0⟩] [([0, 1, 2, 3, 4, 5, 6, 7, 8, 9, 10, 11], 12, [0, 1, 2, 3, 4, 5, 6, 7, 8, 9, 10, 11]), ([], 13, [])] [] (by kernel_rfl) (by kernel_rfl) ?_
    refine wpStages_step ?_
    simp only [pick, List.map_cons, List.map_nil, List.getD_cons_zero, List.getD_cons_succ]
    repeat (go_big_quiet_step (fail))
    refine wpQuiet_nil ?_
    intro n0
    simp only [pick, List.map_cons, List.map_nil, List.getD_cons_zero, List.getD_cons_succ]
    go_wp2
    have B0 : Blk (((w.alloc (.cells (tgtC tgt0).toArray 26)).drewN n0).alloc (.cells (tgtC tgt0).toArray 26)) w.heap.size 26 (tgtC tgt0) := ((Blk.new w _ _).drewN _).alloc _
    have B8 : Blk (((w.alloc (.cells (tgtC tgt0).toArray 26)).drewN n0).alloc (.cells (tgtC tgt0).toArray 26)) (w.heap.size + 1) 26 (tgtC tgt0) := Blk.newAt _ _ _ (by simp)
    have CA : Ch [] w (((w.alloc (.cells (tgtC tgt0).toArray 26)).drewN n0).alloc (.cells (tgtC tgt0).toArray 26)) := (((Ch.refl _ _).alloc _).drewN _).alloc _
    change stagePost _ _ _ _ _ _ (((w.alloc (.cells (tgtC tgt0).toArray 26)).drewN n0).alloc (.cells (tgtC tgt0).toArray 26))
    generalize (((w.alloc (.cells (tgtC tgt0).toArray 26)).drewN n0).alloc (.cells (tgtC tgt0).toArray 26)) = wA at B0 B8 CA ⊢
    refine stagePost_mk ?_ ?_
    · intro o ho
      simp only [pick, List.map_cons, List.map_nil, List.getD_cons_zero, List.getD_cons_succ, List.mem_cons, List.not_mem_nil, or_false] at ho
      rcases ho with rfl | rfl | rfl | rfl | rfl | rfl | rfl | rfl | rfl | rfl | rfl | rfl
      all_goals
        refine float_any ?_
        repeat (go_big_quiet_step (fail))
        refine wpQuiet_nil ?_
        rfl
    refine wpStages_step ?_
    simp only [pick, List.map_nil]
    refine wpQuiet_nil ?_
    intro n1
    simp only [pick, List.map_cons, List.map_nil, List.getD_cons_zero, List.getD_cons_succ]
    go_wp2_with (refine wpList_storeB rfl 26 _ _ rfl (w.heap.size + 1) 26 (tgtC tgt0) (tgtC (⟨#[]⟩, false, zeros, P)) rfl rfl (B8.drewN n1) (tgt_inf rfl) rfl rfl ?_; intro w3 B8' C3 Z3)
    have B0' := (B0.drewN n1).ch C3 (by simp)
    have CA3 : Ch [] w w3 := (CA.drewN n1).step C3 (fun i hi => .inr (by simp at hi; omega))
    refine stagePost_mk (by simp [pick]) ?_
    refine wpStages_last ?_
    simp only [pick, List.map_nil]
    refine wpQuiet_nil ?_
    intro n2
    have c1 : w3.cell? ⟨w.heap.size + 1, 1, none⟩ = some (.bool false) := B8'.cell 1
    have f1 := B8'.frozen 1
    clear B0 B8 CA C3
    go_wp2_with fail
    have B8b : Blk ((w3.drewN n2).setCell ⟨w.heap.size + 1, 1, none⟩ (.bool true)) (w.heap.size + 1) 26 (tgtC (⟨#[]⟩, true, zeros, P)) := (B8'.drewN n2).set 1 _
    have B0b : Blk ((w3.drewN n2).setCell ⟨w.heap.size + 1, 1, none⟩ (.bool true)) w.heap.size 26 (tgtC tgt0) := (B0'.drewN n2).far (p := ⟨w.heap.size + 1, 1, none⟩) (by simp) _
    have CAb : Ch [] w ((w3.drewN n2).setCell ⟨w.heap.size + 1, 1, none⟩ (.bool true)) := (CA3.drewN n2).setCell (p := ⟨w.heap.size + 1, 1, none⟩) (.inr (by simp)) _
    generalize ((w3.drewN n2).setCell ⟨w.heap.size + 1, 1, none⟩ (.bool true)) = wB at B8b B0b CAb ⊢
    clear B8' B0' CA3 c1 f1
    refine wp_region_stagesM [⟨0, 256, 73786976294838206464⟩, ⟨1, 73786976294838206464, 147573952589676412928⟩, ⟨2, 147573952589676412928, 295147905179352825856⟩, ⟨0, 1, 590295810358705651712⟩, ⟨0, 32, 1180591620717411303424⟩, ⟨0, 128, 2361183241434822606848⟩, ⟨56, 4132070672510939561984, 4722366482869645213696⟩, ⟨68, 5017514388048998039552, 9444732965739290427392⟩] [([0, 1, 2, 3, 4, 5, 6], 7, [])] [] (by kernel_rfl) (by kernel_rfl) ?_
    refine wpStages_step ?_
    simp only [pick, List.map_cons, List.map_nil, List.getD_cons_zero, List.getD_cons_succ]
    repeat (go_big_quiet_step (fail))
    refine wpQuiet_nil ?_
    intro n3
    simp only [pick, List.map_cons, List.map_nil, List.getD_cons_zero, List.getD_cons_succ]
    go_wp2_with (refine wpList_copyStr rfl _ _ 34 9 rfl (w.heap.size + 1) 2 16 16 X 26 5 (tgtC (⟨#[]⟩, true, zeros, P)) rfl rfl (B8b.drewN n3) Tryd.underlying34 u8_size (by omega) (by rw [tgt_len rfl]; omega) ?_; intro w4 B8c C4 Z4)
    rw [hXs] at B8c
    have hcs : (tgtC (⟨#[]⟩, true, zeros, P)).take 2 ++ (numsOf X).map (Value.int .u8) ++ (tgtC (⟨#[]⟩, true, zeros, P)).drop (2 + 16) = tgtC (⟨#[]⟩, true, numsOf X, P) := by simp [tgtC, targC, addrC, zeros]
    rw [hcs] at B8c
    have B0c := (B0b.drewN n3).ch C4 (by simp)
    have CA4 : Ch [] w w4 := (CAb.drewN n3).step C4 (fun i hi => .inr (by simp at hi; omega))
    have hl16 : (numsOf X).length = 16 := by simp [numsOf_length, hXs]
    clear B0b B8b CAb C4 hcs
    refine stagePost_mk ?_ ?_
    · intro o ho; simp [pick] at ho
    refine wpStages_last ?_
    simp only [pick, List.map_nil]
    refine wpQuiet_nil ?_
    intro n4
    go_wp2_with (first
      | (refine wpList_loadB rfl 26 _ rfl (w.heap.size + 1) 26 (tgtC (⟨#[]⟩, true, numsOf X, P)) _ rfl (B8c.drewN n4) Tryd.underlying26 rfl (tgt_inf hl16) ?_)
      | (refine wpList_storeB rfl 26 _ _ rfl w.heap.size 26 (tgtC tgt0) (tgtC (⟨#[]⟩, true, numsOf X, P)) rfl rfl (B0c.drewN n4) (tgt_inf hl16) ((tgt_len (t := tgt0) rfl).trans (tgt_len hl16).symm) (tgt_one _) ?_; intro w5 B5 C5 Z5))
    try simp only [Exit.inBlock, Exit.then]
    refine bodyPost_ret (results_row3 rfl _ _ rfl B5 Tryd.underlying26 rfl (tgt_inf hl16)) rfl ?_
    exact ⟨by rw [HP.out]; rfl, (CA4.drewN n4).step C5 (fun i hi => .inr (by simp at hi; omega))⟩
  by_cases k3 : byt s 0 = 3
  case neg =>
    have HP := hid (parse_x s hp k1 k4 k3)
    have d1 : (byt s 0 == 1) = false := by simpa using k1
    have d4 : (byt s 0 == 4) = false := by simpa using k4
    have d3 : (byt s 0 == 3) = false := by simpa using k3
    generalize byt s 0 = x at e0 d1 d3 d4
    clear k1 k3 k4
    go_enter Tryd.func14, Tryd.ntmps14
    go_wp2_with (refine wpList_storeB rfl 26 _ _ rfl w.heap.size 26 (tgtC tgt0) (tgtC tgt0) rfl rfl (by first | exact Blk.new _ _ _ | exact (Blk.new _ _ _).drewN _) (tgt_inf rfl) rfl rfl ?_; intro w2 B2 C2 Z2)
    try simp only [Exit.inBlock, Exit.then]
    refine bodyPost_ret (results_row3 rfl _ _ rfl B2 Tryd.underlying26 rfl (tgt_inf rfl)) rfl ?_
    exact ⟨by rw [HP.out]; rfl, ((Ch.refl [] w).alloc _).step C2 (fun i hi => .inr (by simp at hi; omega))⟩
  rw [k3] at e0
  by_cases h2 : 2 ≤ s.size
  case neg =>
    have HP := hid (parse_3a s (by omega) k3)
    have h2' : (s.size : Int) < 2 := by omega
    clear k1 k3 k4
    go_enter Tryd.func14, Tryd.ntmps14
    go_wp2_with (refine wpList_storeB rfl 26 _ _ rfl w.heap.size 26 (tgtC tgt0) (tgtC tgt0) rfl rfl (by first | exact Blk.new _ _ _ | exact (Blk.new _ _ _).drewN _) (tgt_inf rfl) rfl rfl ?_; intro w2 B2 C2 Z2)
    try simp only [Exit.inBlock, Exit.then]
    refine bodyPost_ret (results_row3 rfl _ _ rfl B2 Tryd.underlying26 rfl (tgt_inf rfl)) rfl ?_
    exact ⟨by rw [HP.out]; rfl, ((Ch.refl [] w).alloc _).step C2 (fun i hi => .inr (by simp at hi; omega))⟩
  have hp1 : 1 < s.size := by omega
  have e1 : ((s[1]'hp1).toNat : Int) = byt s 1 := byt_get hp1
  obtain ⟨n, hn⟩ : ∃ n : Nat, byt s 1 = n := ⟨(byt s 1).toNat, by have := byt_rng s 1; omega⟩
  have hn255 : n ≤ 255 := by have := byt_rng s 1; omega
  by_cases hz : n = 0
  case pos =>
    subst hz
    have HP := hid (parse_3m s h2 k3 hn)
    rw [hn] at e1
    have e1' : ((s[1]'hp1).toNat : Int) = 0 := e1
    clear k1 k3 k4 hn
    go_enter Tryd.func14, Tryd.ntmps14
    go_wp2_with fail
    go_quiet (fail)
    go_wp2_with (refine wpList_storeB rfl 26 _ _ rfl w.heap.size 26 (tgtC tgt0) (tgtC tgt0) rfl rfl (by first | exact Blk.new _ _ _ | exact (Blk.new _ _ _).drewN _) (tgt_inf rfl) rfl rfl ?_; intro w2 B2 C2 Z2)
    try simp only [Exit.inBlock, Exit.then]
    refine bodyPost_ret (results_row3 rfl _ _ rfl B2 Tryd.underlying26 rfl (tgt_inf rfl)) rfl ?_
    exact ⟨by rw [HP.out]; rfl, (((Ch.refl [] w).alloc _).drewN _).step C2 (fun i hi => .inr (by simp at hi; omega))⟩
  by_cases hl : s.size < n + 4
  case pos =>
    have HP := hid (parse_3s s n h2 k3 hn hz hl)
    rw [hn] at e1
    have hz' : ((n : Int) == 0) = false := by simp; omega
    have hl' : (s.size : Int) < 2 + (n : Int) + 2 := by omega
    clear k1 k3 k4 hn
    go_enter Tryd.func14, Tryd.ntmps14
    go_wp2_with fail
    go_quiet (fail)
    go_wp2_with (refine wpList_storeB rfl 26 _ _ rfl w.heap.size 26 (tgtC tgt0) (tgtC tgt0) rfl rfl (by first | exact Blk.new _ _ _ | exact (Blk.new _ _ _).drewN _) (tgt_inf rfl) rfl rfl ?_; intro w2 B2 C2 Z2)
    try simp only [Exit.inBlock, Exit.then]
    refine bodyPost_ret (results_row3 rfl _ _ rfl B2 Tryd.underlying26 rfl (tgt_inf rfl)) rfl ?_
    exact ⟨by rw [HP.out]; rfl, (((Ch.refl [] w).alloc _).drewN _).step C2 (fun i hi => .inr (by simp at hi; omega))⟩
  have HP0 := parse_3 s n k3 hn hz (by omega)
  have p5 : 2 + n < s.size := by omega
  have p6 : 2 + n + 1 < s.size := by omega
  have e5 : ((s[2 + n]'p5).toNat : Int) = byt s (2 + n) := byt_get p5
  have e6 : ((s[2 + n + 1]'p6).toNat : Int) = byt s (2 + n + 1) := byt_get p6
  have r5 := byt_rng s (2 + n)
  have r6 := byt_rng s (2 + n + 1)
  generalize byt s (2 + n) = b5 at e5 r5 HP0
  generalize byt s (2 + n + 1) = b6 at e6 r6 HP0
  have ho := or256 b5 b6 (by omega) (by omega) (by omega) (by omega)
  obtain ⟨P, hP⟩ : ∃ P, b5 * 256 + b6 = P := ⟨_, rfl⟩
  rw [hP] at ho HP0
  obtain ⟨X, hX⟩ : ∃ X, s.extract 2 (2 + n) = X := ⟨_, rfl⟩
  rw [hX] at HP0
  have HP := hid HP0
  rw [hn] at e1
  have hz' : ((n : Int) == 0) = false := by simp; omega
  have hl7 : ¬ (s.size : Int) < 2 + n + 2 := by omega
  have hb1 : (2 : Int) + n ≤ s.size := by omega
  have hb3 : (2 : Int) ≤ 2 + n := by omega
  have hb2 : (2 : Int) + n < s.size ∧ (2 : Int) + n + 1 < s.size := by omega
  have q1 : ((2 : Int) + n).toNat = 2 + n := by omega
  have q2 : ((2 : Int) + n + 1).toNat = 2 + n + 1 := by omega
  clear HP0 k1 k4 k3 hn hP
  go_enter Tryd.func14, Tryd.ntmps14
  go_wp2_with fail
  go_quiet (fail)
  go_wp2_with fail
  refine wp_region_stagesM [⟨0, 1, 2199023255552⟩, ⟨0, 128, 4398046511104⟩, ⟨3, 6597069766656, 8796093022208⟩, ⟨4, 8796093022208, 17592186044416⟩, ⟨8, 17592186044416, 35184372088832⟩, ⟨0, 1, 70368744177664⟩, ⟨0, 128, 140737488355328⟩, ⟨64, 140737488355328, 281474976710656⟩, ⟨160, 351843720888320, 562949953421312⟩, ⟨256, 562949953421312, 1125899906842624⟩, ⟨528, 1161084278931456, 2251799813685248⟩, ⟨1024, 2251799813685248, 4503599627370496⟩, ⟨0, 0, 256⟩, ⟨8191, 4503599627370752, 0⟩] [([0, 1, 2, 3, 4, 5, 6, 7, 8, 9, 10, 11], 12, [0, 1, 2, 3, 4, 5, 6, 7, 8, 9, 10, 11]), ([], 13, [])] [] (by kernel_rfl) (by kernel_rfl) ?_
  refine wpStages_step ?_
  simp only [pick, List.map_cons, List.map_nil, List.getD_cons_zero, List.getD_cons_succ]
  repeat (go_big_quiet_step (fail))
  refine wpQuiet_nil ?_
  intro n0
  simp only [pick, List.map_cons, List.map_nil, List.getD_cons_zero, List.getD_cons_succ]
  go_wp2
  have B0 : Blk (((w.alloc (.cells (tgtC tgt0).toArray 26)).drewN (nq + n0)).alloc (.cells (tgtC tgt0).toArray 26)) w.heap.size 26 (tgtC tgt0) := ((Blk.new w _ _).drewN _).alloc _
  have B8 : Blk (((w.alloc (.cells (tgtC tgt0).toArray 26)).drewN (nq + n0)).alloc (.cells (tgtC tgt0).toArray 26)) (w.heap.size + 1) 26 (tgtC tgt0) := Blk.newAt _ _ _ (by simp)
  have CA : Ch [] w (((w.alloc (.cells (tgtC tgt0).toArray 26)).drewN (nq + n0)).alloc (.cells (tgtC tgt0).toArray 26)) := (((Ch.refl _ _).alloc _).drewN _).alloc _
  change stagePost _ _ _ _ _ _ (((w.alloc (.cells (tgtC tgt0).toArray 26)).drewN (nq + n0)).alloc (.cells (tgtC tgt0).toArray 26))
  generalize (((w.alloc (.cells (tgtC tgt0).toArray 26)).drewN (nq + n0)).alloc (.cells (tgtC tgt0).toArray 26)) = wA at B0 B8 CA ⊢
  refine stagePost_mk ?_ ?_
  · intro o ho
    simp only [pick, List.map_cons, List.map_nil, List.getD_cons_zero, List.getD_cons_succ, List.mem_cons, List.not_mem_nil, or_false] at ho
    rcases ho with rfl | rfl | rfl | rfl | rfl | rfl | rfl | rfl | rfl | rfl | rfl | rfl
    all_goals
      refine float_any ?_
      repeat (go_big_quiet_step (fail))
      refine wpQuiet_nil ?_
      rfl
  refine wpStages_step ?_
  simp only [pick, List.map_nil]
  refine wpQuiet_nil ?_
  intro n1
  simp only [pick, List.map_cons, List.map_nil, List.getD_cons_zero, List.getD_cons_succ]
  go_wp2_with (refine wpList_storeB rfl 26 _ _ rfl (w.heap.size + 1) 26 (tgtC tgt0) (tgtC (⟨#[]⟩, false, zeros, P)) rfl rfl (B8.drewN n1) (tgt_inf rfl) rfl rfl ?_; intro w3 B8' C3 Z3)
  have B0' := (B0.drewN n1).ch C3 (by simp)
  have CA3 : Ch [] w w3 := (CA.drewN n1).step C3 (fun i hi => .inr (by simp at hi; omega))
  refine stagePost_mk (by simp [pick]) ?_
  refine wpStages_last ?_
  simp only [pick, List.map_nil]
  refine wpQuiet_nil ?_
  intro n2
  have c1 : w3.cell? ⟨w.heap.size + 1, 0, none⟩ = some (.string ⟨#[]⟩) := B8'.cell 0
  have f1 := B8'.frozen 0
  have B8b : Blk ((w3.drewN n2).setCell ⟨w.heap.size + 1, 0, none⟩ (.string X)) (w.heap.size + 1) 26 (tgtC (X, false, zeros, P)) := (B8'.drewN n2).set 0 _
  have B0b : Blk ((w3.drewN n2).setCell ⟨w.heap.size + 1, 0, none⟩ (.string X)) w.heap.size 26 (tgtC tgt0) := (B0'.drewN n2).far (p := ⟨w.heap.size + 1, 0, none⟩) (by simp) _
  have CAb : Ch [] w ((w3.drewN n2).setCell ⟨w.heap.size + 1, 0, none⟩ (.string X)) := (CA3.drewN n2).setCell (p := ⟨w.heap.size + 1, 0, none⟩) (.inr (by simp)) _
  clear B0 B8 CA C3
  go_wp2_with (first
    | (refine wpList_loadB rfl 26 _ rfl (w.heap.size + 1) 26 (tgtC (X, false, zeros, P)) _ rfl B8b Tryd.underlying26 rfl (tgt_inf rfl) ?_)
    | (refine wpList_storeB rfl 26 _ _ rfl w.heap.size 26 (tgtC tgt0) (tgtC (X, false, zeros, P)) rfl rfl B0b (tgt_inf rfl) rfl (tgt_one _) ?_; intro w5 B5 C5 Z5))
  try simp only [Exit.inBlock, Exit.then]
  refine bodyPost_ret (results_row3 rfl _ _ rfl B5 Tryd.underlying26 rfl (tgt_inf rfl)) rfl ?_
  have hq : (2 : Int) + n + 2 = n + 4 := by omega
  exact ⟨by rw [HP.out]; exact congrArg (fun z => Ending.returned (.tuple #[.agg (tgtC (X, false, zeros, P)).toArray, .int .i64 z, .int .i64 1])) hq, CAb.step C5 (fun i hi => .inr (by simp at hi; omega))⟩
end Go.Proofs.YtiffpjlmgeklkaaDoor
