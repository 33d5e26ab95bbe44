/- reply.Parse and ginnelref15.ParseReply (printed by mk_rply.py). -/
import Derived.Test.YtiffpjlmgeklkaaDoorTgtR
namespace Go.Proofs.YtiffpjlmgeklkaaDoor
open Go.RowKit

def rpV (r : Int × Tgt × Int × Int) : Value := .tuple #[.int .i64 r.1, .agg (tgtC r.2.1).toArray, .int .i64 r.2.2.1, .int .i64 r.2.2.2]
theorem nums_tail (s : ByteArray) (k : Nat) : numsOf (s.extract k s.size) = (numsOf s).drop k := by
  rw [nums_ext]; exact List.take_of_length_le (by rw [List.length_drop, numsOf_length]; exact Nat.le_refl _)
theorem parse_tgt16 (l : List Int) : (parseT l).1.2.2.1.length = 16 := by
  match l with
  | [] => rfl
  | k :: r =>
    rw [parseT]
    by_cases h1 : k = 1
    · rw [if_pos h1]; by_cases h : r.length < 6
      · rw [if_pos h]; rfl
      · rw [if_neg h]; simp only [List.length_append, List.length_take, List.length_cons, List.length_nil]; omega
    · rw [if_neg h1]
      by_cases h4 : k = 4
      · rw [if_pos h4]; by_cases h : r.length < 18
        · rw [if_pos h]; rfl
        · rw [if_neg h]; simp only [List.length_take]; omega
      · rw [if_neg h4]
        by_cases h3 : k = 3
        · rw [if_pos h3]
          match r with
          | [] => rfl
          | n :: q =>
            rw [parse3]
            by_cases h : n = 0
            · rw [if_pos h]; rfl
            · rw [if_neg h]; by_cases h2 : q.length < n.toNat + 2
              · rw [if_pos h2]; rfl
              · rw [if_neg h2]; rfl
        · rw [if_neg h3]; rfl
theorem parse_bound (l : List Int) (hb : ∀ x ∈ l, 0 ≤ x ∧ x ≤ 255) : 0 ≤ (parseT l).2.1 ∧ (parseT l).2.1 ≤ 259 := by
  match l, hb with
  | [], _ => exact ⟨by decide, by decide⟩
  | k :: r, hb =>
    rw [parseT]
    by_cases h1 : k = 1
    · rw [if_pos h1]; by_cases h : r.length < 6
      · rw [if_pos h]; exact ⟨by decide, by decide⟩
      · rw [if_neg h]; exact ⟨by show (0 : Int) ≤ 7; decide, by show (7 : Int) ≤ 259; decide⟩
    · rw [if_neg h1]
      by_cases h4 : k = 4
      · rw [if_pos h4]; by_cases h : r.length < 18
        · rw [if_pos h]; exact ⟨by decide, by decide⟩
        · rw [if_neg h]; exact ⟨by show (0 : Int) ≤ 19; decide, by show (19 : Int) ≤ 259; decide⟩
      · rw [if_neg h4]
        by_cases h3 : k = 3
        · rw [if_pos h3]
          match r, hb with
          | [], _ => exact ⟨by decide, by decide⟩
          | n :: q, hb =>
            have hn := hb n (by simp)
            rw [parse3]
            by_cases h : n = 0
            · rw [if_pos h]; exact ⟨by decide, by decide⟩
            · rw [if_neg h]; by_cases h2 : q.length < n.toNat + 2
              · rw [if_pos h2]; exact ⟨by decide, by decide⟩
              · rw [if_neg h2]; exact ⟨by show 0 ≤ n + 4; omega, by show n + 4 ≤ 259; omega⟩
        · rw [if_neg h3]; exact ⟨by decide, by decide⟩
theorem nums_bytes (s : ByteArray) : ∀ x ∈ numsOf s, 0 ≤ x ∧ x ≤ 255 := by
  intro x hx
  obtain ⟨b, _, rfl⟩ := List.mem_map.1 hx
  have := b.toNat_lt
  omega
theorem rp_mal0 (s : ByteArray) (h : 0 < s.size) (h5 : byt s 0 ≠ 5) : parseR (numsOf s) = (0, tgt0, 0, 2) := by
  unfold parseR; rw [if_pos (.inl ⟨by rw [numsOf_length]; exact h, by rw [← byt_at h]; exact h5⟩)]
theorem rp_mal2 (s : ByteArray) (h : 3 ≤ s.size) (h0 : byt s 2 ≠ 0) : parseR (numsOf s) = (0, tgt0, 0, 2) := by
  unfold parseR; rw [if_pos (.inr ⟨by rw [numsOf_length]; exact h, by rw [← byt_at (by omega)]; exact h0⟩)]
theorem rp_good (s : ByteArray) (h5 : 0 < s.size → byt s 0 = 5) (h0 : 3 ≤ s.size → byt s 2 = 0) : ¬ ((0 < (numsOf s).length ∧ at_ (numsOf s) 0 ≠ 5) ∨ (3 ≤ (numsOf s).length ∧ at_ (numsOf s) 2 ≠ 0)) := by
  rw [numsOf_length]
  rintro (⟨g1, g2⟩ | ⟨g1, g2⟩)
  · rw [← byt_at g1] at g2; exact g2 (h5 g1)
  · rw [← byt_at (by omega)] at g2; exact g2 (h0 g1)
theorem rp_inc (s : ByteArray) (h : s.size < 3) (h5 : 0 < s.size → byt s 0 = 5) : parseR (numsOf s) = (0, tgt0, 0, 0) := by
  unfold parseR; rw [if_neg (rp_good s h5 (fun h3 => absurd h3 (by omega))), if_pos (by rw [numsOf_length]; exact h)]
theorem rp_no (s : ByteArray) (h : 3 ≤ s.size) (h5 : byt s 0 = 5) (h0 : byt s 2 = 0) (hs : (parseT ((numsOf s).drop 3)).2.2 ≠ 1) : parseR (numsOf s) = (0, tgt0, 0, (parseT ((numsOf s).drop 3)).2.2) := by
  unfold parseR; rw [if_neg (rp_good s (fun _ => h5) (fun _ => h0)), if_neg (by rw [numsOf_length]; omega), if_pos hs]
theorem rp_yes (s : ByteArray) (h : 3 ≤ s.size) (h5 : byt s 0 = 5) (h0 : byt s 2 = 0) (hs : (parseT ((numsOf s).drop 3)).2.2 = 1) : parseR (numsOf s) = (byt s 1, (parseT ((numsOf s).drop 3)).1, (parseT ((numsOf s).drop 3)).2.1 + 3, 1) := by
  unfold parseR; rw [if_neg (rp_good s (fun _ => h5) (fun _ => h0)), if_neg (by rw [numsOf_length]; omega), if_neg (by simpa using hs), byt_at (by omega)]

set_option maxRecDepth 100000 in
set_option maxHeartbeats 4000000 in
theorem replyP (s : ByteArray) (hs : s.size ≤ 1000000000000000) (w : World) : Calls Tryd.prog 19 #[.string s] w fun e w' => e = .returned (rpV (parseR (numsOf s))) ∧ Ch [] w w' := by
  by_cases h0 : s.size = 0
  case pos =>
    have HP := hid (rp_inc s (by omega) (fun h => absurd h (by omega)))
    have h0' : (s.size : Int) = 0 := by omega
    clear h0
    go_enter Tryd.func19, Tryd.ntmps19
    go_wp2_with (refine wpList_storeB rfl 26 _ _ rfl w.heap.size 26 (tgtC tgt0) (tgtC tgt0) rfl rfl (Blk.new _ _ _) (tgt_inf rfl) rfl rfl ?_; intro w2 B2 C2 Z2)
    try simp only [Exit.inBlock, Exit.then]
    refine bodyPost_ret (results_row4 rfl _ _ rfl B2 Tryd.underlying26 rfl (tgt_inf rfl)) rfl ?_
    exact ⟨by rw [HP.out]; rfl, ((Ch.refl [] w).alloc _).step C2 (fun i hi => .inr (by simp at hi; omega))⟩
  have hp : 0 < s.size := by omega
  have hpi : (0 : Int) < s.size := by omega
  have e0 : ((s[0]'hp).toNat : Int) = byt s 0 := byt_get hp
  by_cases k5 : byt s 0 = 5
  case neg =>
    have HP := hid (rp_mal0 s hp k5)
    have d5 : (byt s 0 == 5) = false := by simpa using k5
    have d5' : (byt s 0 != 5) = true := by simpa using k5
    clear k5
    generalize byt s 0 = x at e0 d5 d5'
    go_enter Tryd.func19, Tryd.ntmps19
    go_wp2_with (refine wpList_storeB rfl 26 _ _ rfl w.heap.size 26 (tgtC tgt0) (tgtC tgt0) rfl rfl (Blk.new _ _ _) (tgt_inf rfl) rfl rfl ?_; intro w2 B2 C2 Z2)
    try simp only [Exit.inBlock, Exit.then]
    refine bodyPost_ret (results_row4 rfl _ _ rfl B2 Tryd.underlying26 rfl (tgt_inf rfl)) rfl ?_
    exact ⟨by rw [HP.out]; rfl, ((Ch.refl [] w).alloc _).step C2 (fun i hi => .inr (by simp at hi; omega))⟩
  rw [k5] at e0
  by_cases h3 : 3 ≤ s.size
  case neg =>
    have HP := hid (rp_inc s (by omega) (fun _ => k5))
    have h3' : (s.size : Int) < 3 := by omega
    clear k5 h3
    go_enter Tryd.func19, Tryd.ntmps19
    go_wp2_with (refine wpList_storeB rfl 26 _ _ rfl w.heap.size 26 (tgtC tgt0) (tgtC tgt0) rfl rfl (Blk.new _ _ _) (tgt_inf rfl) rfl rfl ?_; intro w2 B2 C2 Z2)
    try simp only [Exit.inBlock, Exit.then]
    refine bodyPost_ret (results_row4 rfl _ _ rfl B2 Tryd.underlying26 rfl (tgt_inf rfl)) rfl ?_
    exact ⟨by rw [HP.out]; rfl, ((Ch.refl [] w).alloc _).step C2 (fun i hi => .inr (by simp at hi; omega))⟩
  have hp2 : 2 < s.size := by omega
  have h3' : (3 : Int) ≤ s.size := by omega
  have e2 : ((s[2]'hp2).toNat : Int) = byt s 2 := byt_get hp2
  by_cases k0 : byt s 2 = 0
  case neg =>
    have HP := hid (rp_mal2 s h3 k0)
    have d5 : (byt s 2 == 0) = false := by simpa using k0
    have d5' : (byt s 2 != 0) = true := by simpa using k0
    clear k5 k0
    generalize byt s 2 = x at e2 d5 d5'
    go_enter Tryd.func19, Tryd.ntmps19
    go_wp2_with (refine wpList_storeB rfl 26 _ _ rfl w.heap.size 26 (tgtC tgt0) (tgtC tgt0) rfl rfl (Blk.new _ _ _) (tgt_inf rfl) rfl rfl ?_; intro w2 B2 C2 Z2)
    try simp only [Exit.inBlock, Exit.then]
    refine bodyPost_ret (results_row4 rfl _ _ rfl B2 Tryd.underlying26 rfl (tgt_inf rfl)) rfl ?_
    exact ⟨by rw [HP.out]; rfl, ((Ch.refl [] w).alloc _).step C2 (fun i hi => .inr (by simp at hi; omega))⟩
  rw [k0] at e2
  have hcall := parseTP (s.extract 3 s.size) (by rw [ByteArray.size_extract]; omega)
  rw [nums_tail] at hcall
  have hl16 := parse_tgt16 ((numsOf s).drop 3)
  have hbd := parse_bound ((numsOf s).drop 3) (fun x hx => nums_bytes s x (List.mem_of_mem_drop hx))
  have hno := rp_no s h3 k5 k0
  have hyes := rp_yes s h3 k5 k0
  generalize parseT ((numsOf s).drop 3) = r at hcall hl16 hno hyes hbd
  obtain ⟨t, n, st⟩ := r
  have hbd1 : 0 ≤ n := hbd.1
  have hbd2 : n ≤ 259 := hbd.2
  clear hbd
  have hcall2 : ∀ w, Calls Tryd.prog 14 #[.string (s.extract 3 s.size)] w fun e w' => e = .returned (.tuple #[.agg (tgtC t).toArray, .int .i64 n, .int .i64 st]) ∧ Ch [] w w' := hcall
  have HC := hid hcall2
  have hinf := tgt_inf hl16
  have HI := hid hinf
  clear hcall hcall2 k0 k5 hinf
  have hp1 : 1 < s.size := by omega
  have e1 : ((s[1]'hp1).toNat : Int) = byt s 1 := byt_get hp1
  by_cases hst : st = 1
  case neg =>
    have HP := hid (hno hst)
    have d1 : (st == 1) = false := by simpa using hst
    have d2 : (st != 1) = true := by simpa using hst
    clear hno hyes hst e1
    go_enter Tryd.func19, Tryd.ntmps19
    go_wp2_with (first
      | (refine wpList_storeB rfl 26 _ _ rfl w.heap.size 26 (tgtC tgt0) (tgtC tgt0) rfl rfl B3 (tgt_inf rfl) rfl rfl ?_; intro w5 B5 C5 Z5)
      | (refine wpList_storeB rfl 26 _ _ rfl w2.heap.size 26 (tgtC tgt0) (tgtC t) rfl rfl (Blk.new _ _ _) HI.out ((tgt_len (t := tgt0) rfl).trans (tgt_len hl16).symm) (tgt_one _) ?_; intro w3 B4 C3 Z3; have CA := (CB.alloc _).step C3 (fun i hi => .inr (by simp at hi; omega)); have B3 := (B2.alloc _).ch C3 (by simp; omega))
      | (go_at_call 14; (with_reducible refine (HC.out _).mono ?_); rintro e w2 ⟨rfl, C2⟩; have CB := ((Ch.refl [] w).alloc _).trans C2; have B2 := (Blk.new w 26 (tgtC tgt0)).ch C2 (by simp); have lt2 := B2.lt))
    try simp only [Exit.inBlock, Exit.then]
    refine bodyPost_ret (results_row4 rfl _ _ rfl B5 Tryd.underlying26 rfl (tgt_inf rfl)) rfl ?_
    exact ⟨by rw [HP.out]; rfl, CA.step C5 (fun i hi => .inr (by simp at hi; omega))⟩
  subst hst
  have HP := hid (hyes rfl)
  clear hno hyes
  have r1 := byt_rng s 1
  generalize byt s 1 = b1 at e1 r1 HP
  go_enter Tryd.func19, Tryd.ntmps19
  go_wp2_with (first
    | (refine wpList_storeB rfl 26 _ _ rfl w2.heap.size 26 (tgtC tgt0) (tgtC t) rfl rfl (Blk.new _ _ _) HI.out ((tgt_len (t := tgt0) rfl).trans (tgt_len hl16).symm) (tgt_one _) ?_; intro w3 B4 C3 Z3; have CA := (CB.alloc _).step C3 (fun i hi => .inr (by simp at hi; omega)); have B3 := (B2.alloc _).ch C3 (by simp; omega))
    | (go_at_call 14; (with_reducible refine (HC.out _).mono ?_); rintro e w2 ⟨rfl, C2⟩; have CB := ((Ch.refl [] w).alloc _).trans C2; have B2 := (Blk.new w 26 (tgtC tgt0)).ch C2 (by simp); have lt2 := B2.lt))
  refine wp_region_stagesM [⟨0, 1, 35184372088832⟩, ⟨1, 35184372088832, 70368744177664⟩, ⟨2, 70368744177664, 140737488355328⟩, ⟨0, 64, 281474976710656⟩, ⟨0, 128, 562949953421312⟩, ⟨16, 562949953421312, 1125899906842624⟩, ⟨7, 140737488355328, 4⟩, ⟨79, 281474976710664, 0⟩, ⟨255, 1125899906842624, 16⟩, ⟨511, 0, 32⟩] [([0, 1, 2, 4, 5, 6], 3, [0, 1, 2, 4, 5, 6]), ([], 7, [4, 5])] [8, 9] (by kernel_rfl) (by kernel_rfl) ?_
  refine wpStages_step ?_
  simp only [pick, List.map_cons, List.map_nil, List.getD_cons_zero, List.getD_cons_succ]
  repeat (go_big_quiet_step (fail))
  refine wpQuiet_nil ?_
  intro n0
  simp only [pick, List.map_cons, List.map_nil, List.getD_cons_zero, List.getD_cons_succ]
  go_wp2_with (refine wpList_loadB rfl 26 _ rfl w2.heap.size 26 (tgtC t) _ rfl (B4.drewN n0) Tryd.underlying26 rfl HI.out ?_)
  refine stagePost_mk ?_ ?_
  · intro o ho
    simp only [pick, List.map_cons, List.map_nil, List.getD_cons_zero, List.getD_cons_succ, List.mem_cons, List.not_mem_nil, or_false] at ho
    rcases ho with rfl | rfl | rfl | rfl | rfl | rfl
    all_goals
      refine float_any ?_
      repeat (go_big_quiet_step (fail))
      refine wpQuiet_nil ?_
      rfl
  refine wpStages_step ?_
  simp only [pick, List.map_nil]
  refine wpQuiet_nil ?_
  intro n1
  simp only [pick, List.map_cons, List.map_nil, List.getD_cons_zero, List.getD_cons_succ]
  have B3n : Blk ((w3.drewN n0).drewN n1) w.heap.size 26 (tgtC tgt0) := (B3.drewN _).drewN _
  simp only [World.drewN_drewN] at B3n
  go_wp2_with (refine wpList_storeB rfl 26 _ _ rfl w.heap.size 26 (tgtC tgt0) (tgtC t) rfl rfl B3n HI.out ((tgt_len (t := tgt0) rfl).trans (tgt_len hl16).symm) (tgt_one _) ?_; intro w5 B5 C5 Z5)
  refine stagePost_mk ?_ ?_
  · intro o ho
    simp only [pick, List.map_cons, List.map_nil, List.getD_cons_zero, List.getD_cons_succ, List.mem_cons, List.not_mem_nil, or_false] at ho
    rcases ho with rfl | rfl
    all_goals
      refine float_any ?_
      repeat (go_big_quiet_step (fail))
      refine wpQuiet_nil ?_
      rfl
  refine wpStages_last ?_
  simp only [pick, List.map_cons, List.map_nil, List.getD_cons_zero, List.getD_cons_succ]
  repeat (go_big_quiet_step (fail))
  refine wpQuiet_nil ?_
  intro n2
  go_wp2
  have B5n := B5.drewN n2
  try simp only [Exit.inBlock, Exit.then]
  refine bodyPost_ret (results_row4 rfl _ _ rfl B5n Tryd.underlying26 rfl HI.out) rfl ?_
  exact ⟨by rw [HP.out]; first | rfl | (exact congrArg (fun z => Ending.returned (.tuple #[.int .i64 b1, .agg (tgtC t).toArray, .int .i64 z, .int .i64 1])) (Int.add_comm 3 n)), (((CA.drewN _).drewN _).step C5 (fun i hi => .inr (by simp at hi; omega))).drewN _⟩

set_option maxRecDepth 100000 in
set_option maxHeartbeats 4000000 in
theorem replyR (s : ByteArray) (hs : s.size ≤ 1000000000000000) (w : World) : Calls Tryd.prog 33 #[.string s] w fun e w' => e = .returned (rpV (parseR (numsOf s))) ∧ Ch [] w w' := by
  by_cases h0 : s.size = 0
  case pos =>
    have HP := hid (rp_inc s (by omega) (fun h => absurd h (by omega)))
    have h0' : (s.size : Int) = 0 := by omega
    clear h0
    go_enter Tryd.func33, Tryd.ntmps33
    go_wp2_with (refine wpList_storeB rfl 26 _ _ rfl w.heap.size 26 (tgtC tgt0) (tgtC tgt0) rfl rfl (Blk.new _ _ _) (tgt_inf rfl) rfl rfl ?_; intro w2 B2 C2 Z2)
    try simp only [Exit.inBlock, Exit.then]
    refine bodyPost_ret (results_row4 rfl _ _ rfl B2 Tryd.underlying26 rfl (tgt_inf rfl)) rfl ?_
    exact ⟨by rw [HP.out]; rfl, ((Ch.refl [] w).alloc _).step C2 (fun i hi => .inr (by simp at hi; omega))⟩
  have hp : 0 < s.size := by omega
  have hpi : (0 : Int) < s.size := by omega
  have e0 : ((s[0]'hp).toNat : Int) = byt s 0 := byt_get hp
  by_cases k5 : byt s 0 = 5
  case neg =>
    have HP := hid (rp_mal0 s hp k5)
    have d5 : (byt s 0 == 5) = false := by simpa using k5
    have d5' : (byt s 0 != 5) = true := by simpa using k5
    clear k5
    generalize byt s 0 = x at e0 d5 d5'
    go_enter Tryd.func33, Tryd.ntmps33
    go_wp2_with (refine wpList_storeB rfl 26 _ _ rfl w.heap.size 26 (tgtC tgt0) (tgtC tgt0) rfl rfl (Blk.new _ _ _) (tgt_inf rfl) rfl rfl ?_; intro w2 B2 C2 Z2)
    try simp only [Exit.inBlock, Exit.then]
    refine bodyPost_ret (results_row4 rfl _ _ rfl B2 Tryd.underlying26 rfl (tgt_inf rfl)) rfl ?_
    exact ⟨by rw [HP.out]; rfl, ((Ch.refl [] w).alloc _).step C2 (fun i hi => .inr (by simp at hi; omega))⟩
  rw [k5] at e0
  by_cases h3 : 3 ≤ s.size
  case neg =>
    have HP := hid (rp_inc s (by omega) (fun _ => k5))
    have h3' : (s.size : Int) < 3 := by omega
    clear k5 h3
    go_enter Tryd.func33, Tryd.ntmps33
    go_wp2_with (refine wpList_storeB rfl 26 _ _ rfl w.heap.size 26 (tgtC tgt0) (tgtC tgt0) rfl rfl (Blk.new _ _ _) (tgt_inf rfl) rfl rfl ?_; intro w2 B2 C2 Z2)
    try simp only [Exit.inBlock, Exit.then]
    refine bodyPost_ret (results_row4 rfl _ _ rfl B2 Tryd.underlying26 rfl (tgt_inf rfl)) rfl ?_
    exact ⟨by rw [HP.out]; rfl, ((Ch.refl [] w).alloc _).step C2 (fun i hi => .inr (by simp at hi; omega))⟩
  have hp2 : 2 < s.size := by omega
  have h3' : (3 : Int) ≤ s.size := by omega
  have e2 : ((s[2]'hp2).toNat : Int) = byt s 2 := byt_get hp2
  by_cases k0 : byt s 2 = 0
  case neg =>
    have HP := hid (rp_mal2 s h3 k0)
    have d5 : (byt s 2 == 0) = false := by simpa using k0
    have d5' : (byt s 2 != 0) = true := by simpa using k0
    clear k5 k0
    generalize byt s 2 = x at e2 d5 d5'
    go_enter Tryd.func33, Tryd.ntmps33
    go_wp2_with (refine wpList_storeB rfl 26 _ _ rfl w.heap.size 26 (tgtC tgt0) (tgtC tgt0) rfl rfl (Blk.new _ _ _) (tgt_inf rfl) rfl rfl ?_; intro w2 B2 C2 Z2)
    try simp only [Exit.inBlock, Exit.then]
    refine bodyPost_ret (results_row4 rfl _ _ rfl B2 Tryd.underlying26 rfl (tgt_inf rfl)) rfl ?_
    exact ⟨by rw [HP.out]; rfl, ((Ch.refl [] w).alloc _).step C2 (fun i hi => .inr (by simp at hi; omega))⟩
  rw [k0] at e2
  by_cases h4 : s.size = 3
  case pos =>
    have hd : (numsOf s).drop 3 = [] := List.drop_eq_nil_of_le (by rw [numsOf_length]; omega)
    have HP := hid (rp_no s h3 k5 k0 (by rw [hd]; decide))
    have HP2 : Hid (parseR (numsOf s) = (0, tgt0, 0, 0)) := by show _ = _; rw [HP.out, hd]; rfl
    have h4' : (s.size : Int) = 3 := by omega
    clear HP k5 k0 hd
    go_enter Tryd.func33, Tryd.ntmps33
    go_wp2_with (refine wpList_storeB rfl 26 _ _ rfl w.heap.size 26 (tgtC tgt0) (tgtC tgt0) rfl rfl (Blk.new _ _ _) (tgt_inf rfl) rfl rfl ?_; intro w2 B2 C2 Z2)
    try simp only [Exit.inBlock, Exit.then]
    refine bodyPost_ret (results_row4 rfl _ _ rfl B2 Tryd.underlying26 rfl (tgt_inf rfl)) rfl ?_
    exact ⟨by rw [HP2.out]; rfl, ((Ch.refl [] w).alloc _).step C2 (fun i hi => .inr (by simp at hi; omega))⟩
  have h4' : ¬ (s.size : Int) < 4 := by omega
  have h4'' : (4 : Int) ≤ s.size := by omega
  have hcall := parseTR (s.extract 3 s.size) (by rw [ByteArray.size_extract]; omega)
  rw [nums_tail] at hcall
  have hl16 := parse_tgt16 ((numsOf s).drop 3)
  have hbd := parse_bound ((numsOf s).drop 3) (fun x hx => nums_bytes s x (List.mem_of_mem_drop hx))
  have hno := rp_no s h3 k5 k0
  have hyes := rp_yes s h3 k5 k0
  generalize parseT ((numsOf s).drop 3) = r at hcall hl16 hno hyes hbd
  obtain ⟨t, n, st⟩ := r
  have hbd1 : 0 ≤ n := hbd.1
  have hbd2 : n ≤ 259 := hbd.2
  clear hbd
  have hcall2 : ∀ w, Calls Tryd.prog 32 #[.string (s.extract 3 s.size)] w fun e w' => e = .returned (.tuple #[.agg (tgtC t).toArray, .int .i64 n, .int .i64 st]) ∧ Ch [] w w' := hcall
  have HC := hid hcall2
  have hinf := tgt_inf hl16
  have HI := hid hinf
  clear hcall hcall2 k0 k5 hinf
  have hp1 : 1 < s.size := by omega
  have e1 : ((s[1]'hp1).toNat : Int) = byt s 1 := byt_get hp1
  by_cases hst : st = 1
  case neg =>
    have HP := hid (hno hst)
    have d1 : (st == 1) = false := by simpa using hst
    have d2 : (st != 1) = true := by simpa using hst
    clear hno hyes hst e1
    go_enter Tryd.func33, Tryd.ntmps33
    go_wp2_with (first
      | (refine wpList_storeB rfl 26 _ _ rfl w.heap.size 26 (tgtC tgt0) (tgtC tgt0) rfl rfl B3 (tgt_inf rfl) rfl rfl ?_; intro w5 B5 C5 Z5)
      | (refine wpList_storeB rfl 26 _ _ rfl w2.heap.size 26 (tgtC tgt0) (tgtC t) rfl rfl (Blk.new _ _ _) HI.out ((tgt_len (t := tgt0) rfl).trans (tgt_len hl16).symm) (tgt_one _) ?_; intro w3 B4 C3 Z3; have CA := (CB.alloc _).step C3 (fun i hi => .inr (by simp at hi; omega)); have B3 := (B2.alloc _).ch C3 (by simp; omega))
      | (go_at_call 32; (with_reducible refine (HC.out _).mono ?_); rintro e w2 ⟨rfl, C2⟩; have CB := ((Ch.refl [] w).alloc _).trans C2; have B2 := (Blk.new w 26 (tgtC tgt0)).ch C2 (by simp); have lt2 := B2.lt))
    try simp only [Exit.inBlock, Exit.then]
    refine bodyPost_ret (results_row4 rfl _ _ rfl B5 Tryd.underlying26 rfl (tgt_inf rfl)) rfl ?_
    exact ⟨by rw [HP.out]; rfl, CA.step C5 (fun i hi => .inr (by simp at hi; omega))⟩
  subst hst
  have HP := hid (hyes rfl)
  clear hno hyes
  have r1 := byt_rng s 1
  generalize byt s 1 = b1 at e1 r1 HP
  go_enter Tryd.func33, Tryd.ntmps33
  go_wp2_with (first
    | (refine wpList_storeB rfl 26 _ _ rfl w2.heap.size 26 (tgtC tgt0) (tgtC t) rfl rfl (Blk.new _ _ _) HI.out ((tgt_len (t := tgt0) rfl).trans (tgt_len hl16).symm) (tgt_one _) ?_; intro w3 B4 C3 Z3; have CA := (CB.alloc _).step C3 (fun i hi => .inr (by simp at hi; omega)); have B3 := (B2.alloc _).ch C3 (by simp; omega))
    | (go_at_call 32; (with_reducible refine (HC.out _).mono ?_); rintro e w2 ⟨rfl, C2⟩; have CB := ((Ch.refl [] w).alloc _).trans C2; have B2 := (Blk.new w 26 (tgtC tgt0)).ch C2 (by simp); have lt2 := B2.lt))
  refine wp_region_stagesM [⟨0, 1, 8796093022208⟩, ⟨1, 8796093022208, 17592186044416⟩, ⟨2, 17592186044416, 35184372088832⟩, ⟨0, 64, 70368744177664⟩, ⟨0, 128, 140737488355328⟩, ⟨16, 140737488355328, 281474976710656⟩, ⟨7, 35184372088832, 4⟩, ⟨79, 70368744177672, 0⟩, ⟨255, 281474976710656, 16⟩, ⟨511, 0, 32⟩] [([0, 1, 2, 4, 5, 6], 3, [0, 1, 2, 4, 5, 6]), ([], 7, [4, 5])] [8, 9] (by kernel_rfl) (by kernel_rfl) ?_
  refine wpStages_step ?_
  simp only [pick, List.map_cons, List.map_nil, List.getD_cons_zero, List.getD_cons_succ]
  repeat (go_big_quiet_step (fail))
  refine wpQuiet_nil ?_
  intro n0
  simp only [pick, List.map_cons, List.map_nil, List.getD_cons_zero, List.getD_cons_succ]
  go_wp2_with (refine wpList_loadB rfl 26 _ rfl w2.heap.size 26 (tgtC t) _ rfl (B4.drewN n0) Tryd.underlying26 rfl HI.out ?_)
  refine stagePost_mk ?_ ?_
  · intro o ho
    simp only [pick, List.map_cons, List.map_nil, List.getD_cons_zero, List.getD_cons_succ, List.mem_cons, List.not_mem_nil, or_false] at ho
    rcases ho with rfl | rfl | rfl | rfl | rfl | rfl
    all_goals
      refine float_any ?_
      repeat (go_big_quiet_step (fail))
      refine wpQuiet_nil ?_
      rfl
  refine wpStages_step ?_
  simp only [pick, List.map_nil]
  refine wpQuiet_nil ?_
  intro n1
  simp only [pick, List.map_cons, List.map_nil, List.getD_cons_zero, List.getD_cons_succ]
  have B3n : Blk ((w3.drewN n0).drewN n1) w.heap.size 26 (tgtC tgt0) := (B3.drewN _).drewN _
  simp only [World.drewN_drewN] at B3n
  go_wp2_with (refine wpList_storeB rfl 26 _ _ rfl w.heap.size 26 (tgtC tgt0) (tgtC t) rfl rfl B3n HI.out ((tgt_len (t := tgt0) rfl).trans (tgt_len hl16).symm) (tgt_one _) ?_; intro w5 B5 C5 Z5)
  refine stagePost_mk ?_ ?_
  · intro o ho
    simp only [pick, List.map_cons, List.map_nil, List.getD_cons_zero, List.getD_cons_succ, List.mem_cons, List.not_mem_nil, or_false] at ho
    rcases ho with rfl | rfl
    all_goals
      refine float_any ?_
      repeat (go_big_quiet_step (fail))
      refine wpQuiet_nil ?_
      rfl
  refine wpStages_last ?_
  simp only [pick, List.map_cons, List.map_nil, List.getD_cons_zero, List.getD_cons_succ]
  repeat (go_big_quiet_step (fail))
  refine wpQuiet_nil ?_
  intro n2
  go_wp2
  have B5n := B5.drewN n2
  try simp only [Exit.inBlock, Exit.then]
  refine bodyPost_ret (results_row4 rfl _ _ rfl B5n Tryd.underlying26 rfl HI.out) rfl ?_
  exact ⟨by rw [HP.out]; first | rfl | (exact congrArg (fun z => Ending.returned (.tuple #[.int .i64 b1, .agg (tgtC t).toArray, .int .i64 z, .int .i64 1])) (Int.add_comm 3 n)), (((CA.drewN _).drewN _).step C5 (fun i hi => .inr (by simp at hi; omega))).drewN _⟩

end Go.Proofs.YtiffpjlmgeklkaaDoor
