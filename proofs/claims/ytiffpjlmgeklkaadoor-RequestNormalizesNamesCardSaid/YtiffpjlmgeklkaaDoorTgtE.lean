/- reply.EncodeTarget at every target (printed by mk_tgte.py). -/
import Derived.Test.YtiffpjlmgeklkaaDoorRply
namespace Go.Proofs.YtiffpjlmgeklkaaDoor
open Go.RowKit

theorem two_rdAt (w : World) (a b : Int) (e : TypeId) (g : Nat) (hg : w.heap.size = g) : RdI .u8 (w.alloc (.cells #[.int .u8 a, .int .u8 b] e)) (g + 1) (some ⟨g, 0, none⟩) 2 [a, b] := by
  subst hg
  exact blk_ints (Blk.new w e [.int .u8 a, .int .u8 b]) 0 2 [a, b] rfl (fun i hi => by rcases (show i = 0 ∨ i = 1 by simp at hi; omega) with rfl | rfl <;> rfl)
set_option maxRecDepth 100000 in
set_option maxHeartbeats 2000000 in
theorem encT6 (bs : List Int) (port : Int) (hl : bs.length = 16) (hb : ∀ x ∈ bs, 0 ≤ x ∧ x ≤ 255) (hp : 0 ≤ port ∧ port < 65536) (w : World) :
    Calls Tryd.prog 11 #[.agg (targC ⟨#[]⟩ true bs port).toArray] w fun e w' => e = .returned (.tuple #[.string (strOfNums (4 :: (bs ++ [port / 256, port % 256]))), .bool true]) ∧ Ch [] w w' := by
  obtain ⟨p0, p1⟩ := hp
  have hB : Blk (w.alloc (.cells (targC ⟨#[]⟩ true bs port).toArray 26)) w.heap.size 26 (targC ⟨#[]⟩ true bs port) := Blk.new w _ _
  have hC : Ch [] w (w.alloc (.cells (targC ⟨#[]⟩ true bs port).toArray 26)) := (Ch.refl _ _).alloc _
  have c0 : (w.alloc (.cells (targC ⟨#[]⟩ true bs port).toArray 26)).cell? ⟨w.heap.size, 0, none⟩ = some (.string ⟨#[]⟩) := hB.cell 0
  have c1 : (w.alloc (.cells (targC ⟨#[]⟩ true bs port).toArray 26)).cell? ⟨w.heap.size, 1, none⟩ = some (.bool true) := hB.cell 1
  have b18 : (targC ⟨#[]⟩ true bs port)[18]? = some (.int .i64 port) := by
    unfold targC addrC
    simp [hl]
  have c18 : (w.alloc (.cells (targC ⟨#[]⟩ true bs port).toArray 26)).cell? ⟨w.heap.size, 18, none⟩ = some (.int .i64 port) := by
    rw [hB.cell]; exact b18
  have hld : (w.alloc (.cells (targC ⟨#[]⟩ true bs port).toArray 26)).rangeAt w.heap.size 1 (addrC true bs) := fun j v hj => by
    rw [hB.cell, Nat.add_comm 1 j]
    unfold targC
    rw [List.getElem?_cons_succ, List.getElem?_append_left (List.getElem?_eq_some_iff.1 hj).1]
    exact hj
  have hli : (Tryd.prog.info? 24).map (·.size) = some (addrC true bs).length := by
    rw [show (addrC true bs).length = 17 by unfold addrC; rw [List.length_cons, List.length_map, hl]]; kernel_rfl
  have HLD := hid hld
  have HLI := hid hli
  have hby := fun i h => targ_byte (name := ⟨#[]⟩) (six := true) (bs := bs) (port := port) i h
  generalize hvs : targC ⟨#[]⟩ true bs port = cs at hB hC c0 c1 c18 HLD hby b18 ⊢
  clear hvs hld hli
  have HV : Hid (validA true bs = true) := by rfl
  go_enter Tryd.func11, Tryd.ntmps11
  go_wp2_with (first
    | (refine wpList_load_want rfl 24 _ rfl w.heap.size 1 rfl (addrC true bs) _ HLD.out Tryd.underlying24 rfl HLI.out ?_)
    | (go_at_call 28; (with_reducible refine (ipValid true bs hl hb _).mono ?_); rw [HV.out]; rintro e w2 ⟨rfl, C2⟩; have B2 := hB.ch C2 (by simp); have d0 : w2.cell? ⟨w.heap.size, 0, none⟩ = some (.string ⟨#[]⟩) := (C2.cell (p := ⟨w.heap.size, 0, none⟩) hB.lt (by simp)).trans c0; have d1 : w2.cell? ⟨w.heap.size, 1, none⟩ = some (.bool true) := (C2.cell (p := ⟨w.heap.size, 1, none⟩) hB.lt (by simp)).trans c1; have d18 : w2.cell? ⟨w.heap.size, 18, none⟩ = some (.int .i64 port) := (C2.cell (p := ⟨w.heap.size, 18, none⟩) hB.lt (by simp)).trans c18))
  have hR : ∀ w', Ch [] w2 w' → RdI .u8 w' (w.heap.size + 1) (some ⟨w.heap.size, 2, none⟩) 16 (bs) := fun w' C => blk_ints (B2.ch C (by simp)) 2 16 _ hl (fun i hi => hby i (by omega))
  have hrun : ∀ w' n, Ch [] w2 w' → (convert 34 9 (.slice (some ⟨w.heap.size, 2, none⟩) 16 16)).run Tryd.prog (w'.drewN n) = .ok (.string (strOfNums (bs))) (w'.drewN n) := fun w' n C => run_strOf 34 9 5 Tryd.underlying34 Tryd.underlying5 Tryd.underlying9 _ 16 16 _ _ (hR _ (C.drewN n))
  refine wp_region_stagesM [⟨0, 0, 562949953421312⟩, ⟨1, 562949953421312, 1125899906842624⟩, ⟨0, 2, 2251799813685248⟩, ⟨4, 2251799813685248, 4503599627370496⟩, ⟨8, 4503599627370496, 9007199254740992⟩, ⟨16, 9007199254740992, 18014398509481984⟩, ⟨34, 19140298416324608, 36028797018963968⟩, ⟨127, 36028797018963968, 16⟩] [([2, 3, 4, 5], 0, [2, 3, 4, 5])] [1, 6, 7] (by kernel_rfl) (by kernel_rfl) ?_
  refine wpStages_step ?_
  simp only [pick, List.map_cons, List.map_nil, List.getD_cons_zero, List.getD_cons_succ]
  have hrun0 := fun n => hrun w2 n (Ch.refl _ _)
  repeat (go_big_quiet_step (fail))
  refine wpQuiet_nil ?_
  intro n0
  simp only [pick, List.map_cons, List.map_nil, List.getD_cons_zero]
  go_wp2
  have C3 : Ch [] w2 ((w2.drewN n0).alloc (.cells #[.int .u8 4] 5)) := ((Ch.refl _ _).drewN _).alloc _
  have hrun1 := fun n => hrun _ n C3
  have hrA : RdI .u8 ((w2.drewN n0).alloc (.cells #[.int .u8 4] 5)) (w2.heap.size + 1) (some ⟨w2.heap.size, 0, none⟩) 1 [4] := blk_ints (Blk.new (w2.drewN n0) 5 [.int .u8 4]) 0 1 [4] rfl (fun i hi => by
    obtain rfl : i = 0 := by simpa using hi
    rfl)
  have hrunA : ∀ n, (convert 34 9 (.slice (some ⟨w2.heap.size, 0, none⟩) 1 1)).run Tryd.prog (((w2.drewN n0).alloc (.cells #[.int .u8 4] 5)).drewN n) = .ok (.string (strOfNums [4])) (((w2.drewN n0).alloc (.cells #[.int .u8 4] 5)).drewN n) := fun n => run_strOf 34 9 5 Tryd.underlying34 Tryd.underlying5 Tryd.underlying9 _ 1 1 _ _ (hrA.heap rfl)
  have hrunB : ∀ n, (convert 34 9 (.slice (some ⟨w2.heap.size + 1, 0, none⟩) 2 2)).run Tryd.prog ((((w2.drewN n0).alloc (.cells #[.int .u8 4] 5)).drewN n).alloc (.cells #[.int .u8 (port / 256), .int .u8 (port % 256)] 5)) = .ok (.string (strOfNums [port / 256, port % 256])) ((((w2.drewN n0).alloc (.cells #[.int .u8 4] 5)).drewN n).alloc (.cells #[.int .u8 (port / 256), .int .u8 (port % 256)] 5)) := fun n =>
    run_strOf 34 9 5 Tryd.underlying34 Tryd.underlying5 Tryd.underlying9 _ 2 2 _ [port / 256, port % 256] (blk_ints (Blk.newAt (((w2.drewN n0).alloc (.cells #[.int .u8 4] 5)).drewN n) 5 [.int .u8 (port / 256), .int .u8 (port % 256)] (by simp)) 0 2 _ rfl (fun i hi => by
      rcases (show i = 0 ∨ i = 1 by simp at hi; omega) with rfl | rfl <;> rfl))
  have s3 : (strOfNums [port / 256, port % 256]).size ≤ 2 := by rw [strOf_size]; simp
  have s1 : (strOfNums [4]).size ≤ 1 := by rw [strOf_size]; simp
  have s2 : (strOfNums (bs)).size ≤ 16 := by rw [strOf_size]; omega
  have B3 := B2.ch C3 (by simp)
  have g18 : ((w2.drewN n0).alloc (.cells #[.int .u8 4] 5)).cell? ⟨w.heap.size, 18, none⟩ = some (.int .i64 port) := (B3.cell 18).trans b18
  refine stagePost_mk ?_ ?_
  · intro o ho
    simp only [pick, List.map_cons, List.map_nil, List.getD_cons_zero, List.getD_cons_succ, List.mem_cons, List.not_mem_nil, or_false] at ho
    rcases ho with rfl | rfl | rfl | rfl
    all_goals
      refine float_any ?_
      repeat (go_big_quiet_step (fail))
      refine wpQuiet_nil ?_
      rfl
  refine wpStages_last ?_
  simp only [pick, List.map_cons, List.map_nil, List.getD_cons_zero, List.getD_cons_succ]
  repeat (go_big_quiet_step (fail))
  refine wpQuiet_nil ?_
  intro n1
  go_wp2
  go_ret2
  exact ⟨by rw [strOf_append, strOf_append]; rfl, hC.trans (C2.trans ((C3.drewN _).alloc _))⟩

set_option maxRecDepth 100000 in
set_option maxHeartbeats 4000000 in
theorem encTF (name : ByteArray) (six : Bool) (bs : List Int) (port : Int) (hl : bs.length = 16) (hb : ∀ x ∈ bs, 0 ≤ x ∧ x ≤ 255) (hns : name.size ≤ 1000000000000000) (hno : okT (name, six, bs, port) = false) (w : World) : Calls Tryd.prog 11 #[.agg (targC name six bs port).toArray] w fun e w' => e = .returned (encV none) ∧ Ch [] w w' := by
  have hC : Ch [] w (w.alloc (.cells (targC name six bs port).toArray 26)) := (Ch.refl _ _).alloc _
  have hB : Blk (w.alloc (.cells (targC name six bs port).toArray 26)) w.heap.size 26 (targC name six bs port) := Blk.new w _ _
  have c0 : (w.alloc (.cells (targC name six bs port).toArray 26)).cell? ⟨w.heap.size, 0, none⟩ = some (.string name) := hB.cell 0
  have b0 : (targC name six bs port)[0]? = some (.string name) := rfl
  have b18 : (targC name six bs port)[18]? = some (.int .i64 port) := by
    unfold targC addrC
    simp [hl]
  have hld : (w.alloc (.cells (targC name six bs port).toArray 26)).rangeAt w.heap.size 1 (addrC six bs) := fun j v hj => by
    rw [hB.cell, Nat.add_comm 1 j]
    unfold targC
    rw [List.getElem?_cons_succ, List.getElem?_append_left (List.getElem?_eq_some_iff.1 hj).1]
    exact hj
  have hli : (Tryd.prog.info? 24).map (·.size) = some (addrC six bs).length := by
    rw [show (addrC six bs).length = 17 by unfold addrC; rw [List.length_cons, List.length_map, hl]]; kernel_rfl
  have HLD := hid hld
  have HLI := hid hli
  generalize hvs : targC name six bs port = cs at hB hC c0 HLD b18 b0 ⊢
  clear hvs hld hli
  by_cases h1 : name.size ≤ 255
  case neg =>
    have h1' : (255 : Int) < name.size := by omega
    clear hno
    go_enter Tryd.func11, Tryd.ntmps11
    go_wp2_with fail
    go_ret2
    exact ⟨rfl, hC⟩
  have h1' : ¬ (255 : Int) < name.size := by omega
  cases hva : validA six bs with
  | false =>
    have HV := hid hva
    clear hno
    go_enter Tryd.func11, Tryd.ntmps11
    go_wp2_with (first
      | (refine wpList_load_want rfl 24 _ rfl w.heap.size 1 rfl (addrC six bs) _ HLD.out Tryd.underlying24 rfl HLI.out ?_)
      | (go_at_call 28; (with_reducible refine (ipValid six bs hl hb _).mono ?_); rw [HV.out]; rintro e w2 ⟨rfl, C2⟩; have B2 := hB.ch C2 (by simp); have d0 : w2.cell? ⟨w.heap.size, 0, none⟩ = some (.string name) := (C2.cell (p := ⟨w.heap.size, 0, none⟩) hB.lt (by simp)).trans c0; have d18 : w2.cell? ⟨w.heap.size, 18, none⟩ = some (.int .i64 port) := (B2.cell 18).trans b18))
    go_ret2
    exact ⟨rfl, hC.trans C2⟩
  | true =>
    have HV := hid hva
    by_cases hp : port < 0
    case pos =>
      clear hno
      go_enter Tryd.func11, Tryd.ntmps11
      go_wp2_with (first
        | (refine wpList_load_want rfl 24 _ rfl w.heap.size 1 rfl (addrC six bs) _ HLD.out Tryd.underlying24 rfl HLI.out ?_)
        | (go_at_call 28; (with_reducible refine (ipValid six bs hl hb _).mono ?_); rw [HV.out]; rintro e w2 ⟨rfl, C2⟩; have B2 := hB.ch C2 (by simp); have d0 : w2.cell? ⟨w.heap.size, 0, none⟩ = some (.string name) := (C2.cell (p := ⟨w.heap.size, 0, none⟩) hB.lt (by simp)).trans c0; have d18 : w2.cell? ⟨w.heap.size, 18, none⟩ = some (.int .i64 port) := (B2.cell 18).trans b18))
      go_ret2
      exact ⟨rfl, hC.trans C2⟩
    have hp2 : 65536 ≤ port := by
      rcases Int.lt_or_le port 65536 with h | h
      · have : okT (name, six, bs, port) = true := by
          simp only [okT, Bool.and_eq_true, decide_eq_true_eq]
          exact ⟨⟨⟨h1, hva⟩, by omega⟩, by omega⟩
        rw [this] at hno; cases hno
      · exact h
    clear hno
    go_enter Tryd.func11, Tryd.ntmps11
    go_wp2_with (first
      | (refine wpList_load_want rfl 24 _ rfl w.heap.size 1 rfl (addrC six bs) _ HLD.out Tryd.underlying24 rfl HLI.out ?_)
      | (go_at_call 28; (with_reducible refine (ipValid six bs hl hb _).mono ?_); rw [HV.out]; rintro e w2 ⟨rfl, C2⟩; have B2 := hB.ch C2 (by simp); have d0 : w2.cell? ⟨w.heap.size, 0, none⟩ = some (.string name) := (C2.cell (p := ⟨w.heap.size, 0, none⟩) hB.lt (by simp)).trans c0; have d18 : w2.cell? ⟨w.heap.size, 18, none⟩ = some (.int .i64 port) := (B2.cell 18).trans b18))
    go_ret2
    exact ⟨rfl, hC.trans C2⟩

set_option maxRecDepth 100000 in
set_option maxHeartbeats 4000000 in
theorem encTN (name : ByteArray) (six : Bool) (bs : List Int) (port : Int) (hl : bs.length = 16) (hb : ∀ x ∈ bs, 0 ≤ x ∧ x ≤ 255) (h0 : 0 < name.size) (h1 : name.size ≤ 255) (hva : validA six bs = true) (hp : 0 ≤ port ∧ port < 65536) (w : World) : Calls Tryd.prog 11 #[.agg (targC name six bs port).toArray] w fun e w' => e = .returned (.tuple #[.string (strOfNums (3 :: (name.size : Int) :: (numsOf name ++ [port / 256, port % 256]))), .bool true]) ∧ Ch [] w w' := by
  have hC : Ch [] w (w.alloc (.cells (targC name six bs port).toArray 26)) := (Ch.refl _ _).alloc _
  have hB : Blk (w.alloc (.cells (targC name six bs port).toArray 26)) w.heap.size 26 (targC name six bs port) := Blk.new w _ _
  have c0 : (w.alloc (.cells (targC name six bs port).toArray 26)).cell? ⟨w.heap.size, 0, none⟩ = some (.string name) := hB.cell 0
  have b0 : (targC name six bs port)[0]? = some (.string name) := rfl
  have b18 : (targC name six bs port)[18]? = some (.int .i64 port) := by
    unfold targC addrC
    simp [hl]
  have hld : (w.alloc (.cells (targC name six bs port).toArray 26)).rangeAt w.heap.size 1 (addrC six bs) := fun j v hj => by
    rw [hB.cell, Nat.add_comm 1 j]
    unfold targC
    rw [List.getElem?_cons_succ, List.getElem?_append_left (List.getElem?_eq_some_iff.1 hj).1]
    exact hj
  have hli : (Tryd.prog.info? 24).map (·.size) = some (addrC six bs).length := by
    rw [show (addrC six bs).length = 17 by unfold addrC; rw [List.length_cons, List.length_map, hl]]; kernel_rfl
  have HLD := hid hld
  have HLI := hid hli
  generalize hvs : targC name six bs port = cs at hB hC c0 HLD b18 b0 ⊢
  clear hvs hld hli
  obtain ⟨p0, p1⟩ := hp
  have h1' : ¬ (255 : Int) < name.size := by omega
  have i0 := notEmp h0
  have HV := hid hva
  obtain ⟨P, hP⟩ : ∃ P, strOfNums [port / 256, port % 256] = P := ⟨_, rfl⟩
  obtain ⟨Q, hQ⟩ : ∃ Q, strOfNums [3, (name.size : Int)] = Q := ⟨_, rfl⟩
  have hPs : P.size = 2 := by rw [← hP, strOf_size]; rfl
  have hQs : Q.size = 2 := by rw [← hQ, strOf_size]; rfl
  have m1 : Q.size + name.size ≤ maxLen := by unfold maxLen; omega
  have m2 : Q.size + name.size + P.size ≤ maxLen := by unfold maxLen; omega
  have hres : strOfNums (3 :: (name.size : Int) :: (numsOf name ++ [port / 256, port % 256])) = Q ++ name ++ P := by
    rw [show Q ++ name ++ P = strOfNums [3, (name.size : Int)] ++ strOfNums (numsOf name) ++ strOfNums [port / 256, port % 256] by rw [hQ, hP, strOf_nums], strOf_append, strOf_append]; rfl
  rw [hres]
  clear hres hva
  go_enter Tryd.func11, Tryd.ntmps11
  go_wp2_with (first
    | (refine wpList_load_want rfl 24 _ rfl w.heap.size 1 rfl (addrC six bs) _ HLD.out Tryd.underlying24 rfl HLI.out ?_)
    | (go_at_call 28; (with_reducible refine (ipValid six bs hl hb _).mono ?_); rw [HV.out]; rintro e w2 ⟨rfl, C2⟩; have B2 := hB.ch C2 (by simp); have d0 : w2.cell? ⟨w.heap.size, 0, none⟩ = some (.string name) := (C2.cell (p := ⟨w.heap.size, 0, none⟩) hB.lt (by simp)).trans c0; have d18 : w2.cell? ⟨w.heap.size, 18, none⟩ = some (.int .i64 port) := (B2.cell 18).trans b18; have d0a : (w2.alloc (.cells #[.int .u8 3, .int .u8 (name.size : Int)] 5)).cell? ⟨w.heap.size, 0, none⟩ = some (.string name) := ((B2.alloc _).cell 0).trans b0; have d18a : (w2.alloc (.cells #[.int .u8 3, .int .u8 (name.size : Int)] 5)).cell? ⟨w.heap.size, 18, none⟩ = some (.int .i64 port) := ((B2.alloc _).cell 18).trans b18)
    | (refine wpList_strOf rfl 34 9 5 _ rfl Tryd.underlying34 Tryd.underlying5 Tryd.underlying9 _ 2 2 _ [3, (name.size : Int)] rfl (two_rdAt _ _ _ _ _ (by simp)) ?_; rw [hQ])
    | (refine wpList_strOf rfl 34 9 5 _ rfl Tryd.underlying34 Tryd.underlying5 Tryd.underlying9 _ 2 2 _ [port / 256, port % 256] rfl (two_rdAt _ _ _ _ _ (by simp)) ?_; rw [hP]))
  go_ret2
  exact ⟨rfl, hC.trans (C2.trans (((Ch.refl _ _).alloc _).alloc _))⟩
end Go.Proofs.YtiffpjlmgeklkaaDoor
