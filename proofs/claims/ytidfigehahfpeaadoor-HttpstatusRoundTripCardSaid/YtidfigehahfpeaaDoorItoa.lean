/- num.Format: a number's decimal digits, by the kit's contract on strconv.Itoa; the reference's FormatDecimal at numbers of at most three digits. -/
import Derived.Test.YtidfigehahfpeaaDoorReply4
import Derived.Test.YtidfigehahfpeaaDoorStages4
import Derived.Shelf.Strconv.Itoa3
import Derived.Lib.LaidTab
import Derived.LaidSub
import Derived.MakeChecks
import Derived.WalkSmall
namespace Go.Proofs.YtidfigehahfpeaaDoor
open Go.RowKit Go.Sort

def laysItoa_ren : Go.Shelf.Ren := ⟨fun | 171 => 55 | 243 => 65 | 246 => 73 | 283 => 81 | 284 => 82 | 285 => 83 | 286 => 84 | 129 => 92 | 317 => 91 | 318 => 93 | 319 => 94 | 320 => 95 | 337 => 96 | 338 => 97 | n => n, fun | 3 => 3 | 9 => 9 | 2 => 2 | 4 => 4 | 171 => 79 | 0 => 0 | 53 => 80 | 37 => 31 | 5 => 5 | 173 => 83 | 212 => 90 | 51 => 86 | 20 => 20 | 213 => 91 | 46 => 24 | 232 => 98 | 233 => 99 | n => n, fun | 17 => 1 | 18 => 4 | 19 => 5 | n => n⟩
theorem laysItoa : Go.Proofs.LaysM.n171 Tryd.prog laysItoa_ren where
  mixed := by kernel_rfl
  f129 := Tryd.func92.trans (congrArg some (by kernel_rfl))
  f171 := Tryd.func55.trans (congrArg some (by kernel_rfl))
  f243 := Tryd.func65.trans (congrArg some (by kernel_rfl))
  f246 := Tryd.func73.trans (congrArg some (by kernel_rfl))
  f283 := Tryd.func81.trans (congrArg some (by kernel_rfl))
  f284 := Tryd.func82.trans (congrArg some (by kernel_rfl))
  f285 := Tryd.func83.trans (congrArg some (by kernel_rfl))
  f286 := Tryd.func84.trans (congrArg some (by kernel_rfl))
  f317 := Tryd.func91.trans (congrArg some (by kernel_rfl))
  f318 := Tryd.func93.trans (congrArg some (by kernel_rfl))
  f319 := Tryd.func94.trans (congrArg some (by kernel_rfl))
  f320 := Tryd.func95.trans (congrArg some (by kernel_rfl))
  f337 := Tryd.func96.trans (congrArg some (by kernel_rfl))
  f338 := Tryd.func97.trans (congrArg some (by kernel_rfl))
  t0 := Tryd.underlying0
  a0 := Tryd.isAgg0
  z0 := Tryd.sizeOf0
  v0 := Tryd.zeroValue0
  t2 := Tryd.underlying2
  a2 := Tryd.isAgg2
  z2 := Tryd.sizeOf2
  v2 := Tryd.zeroValue2
  t3 := Tryd.underlying3
  a3 := Tryd.isAgg3
  z3 := Tryd.sizeOf3
  v3 := Tryd.zeroValue3
  t4 := Tryd.underlying4
  a4 := Tryd.isAgg4
  z4 := Tryd.sizeOf4
  v4 := Tryd.zeroValue4
  t5 := Tryd.underlying5
  a5 := Tryd.isAgg5
  z5 := Tryd.sizeOf5
  v5 := Tryd.zeroValue5
  t9 := Tryd.underlying9
  a9 := Tryd.isAgg9
  z9 := Tryd.sizeOf9
  v9 := Tryd.zeroValue9
  t20 := Tryd.underlying20
  a20 := Tryd.isAgg20
  z20 := Tryd.sizeOf20
  v20 := Tryd.zeroValue20
  t37 := Tryd.underlying31
  a37 := Tryd.isAgg31
  z37 := Tryd.sizeOf31
  v37 := Tryd.zeroValue31
  t46 := Tryd.underlying24
  a46 := Tryd.isAgg24
  z46 := Tryd.sizeOf24
  v46 := Tryd.zeroValue24
  t51 := Tryd.underlying86
  a51 := Tryd.isAgg86
  z51 := Tryd.sizeOf86
  v51 := Tryd.zeroValue86
  t53 := Tryd.underlying80
  a53 := Tryd.isAgg80
  z53 := Tryd.sizeOf80
  v53 := Tryd.zeroValue80
  t171 := Tryd.underlying79
  a171 := Tryd.isAgg79
  z171 := Tryd.sizeOf79
  v171 := Tryd.zeroValue79
  t173 := Tryd.underlying83
  a173 := Tryd.isAgg83
  z173 := Tryd.sizeOf83
  v173 := Tryd.zeroValue83
  t212 := Tryd.underlying90
  a212 := Tryd.isAgg90
  z212 := Tryd.sizeOf90
  v212 := Tryd.zeroValue90
  t213 := Tryd.underlying91
  a213 := Tryd.isAgg91
  z213 := Tryd.sizeOf91
  t232 := Tryd.underlying98
  a232 := Tryd.isAgg98
  z232 := Tryd.sizeOf98
  v232 := Tryd.zeroValue98
  t233 := Tryd.underlying99
  a233 := Tryd.isAgg99
  z233 := Tryd.sizeOf99
  v233 := Tryd.zeroValue99
  g17 := by kernel_rfl
  g18 := by kernel_rfl
  g19 := by kernel_rfl
  i0 := by kernel_rfl
  i2 := by kernel_rfl
  i3 := by kernel_rfl
  i4 := by kernel_rfl
  i5 := by kernel_rfl
  i9 := by kernel_rfl
  i20 := by kernel_rfl
  i37 := by kernel_rfl
  i46 := by kernel_rfl
  i51 := by kernel_rfl
  i53 := by kernel_rfl
  i171 := by kernel_rfl
  i173 := by kernel_rfl
  i212 := by kernel_rfl
  i232 := by kernel_rfl
  i233 := by kernel_rfl
  m17 := by kernel_rfl
  m18 := by kernel_rfl
  m19 := by kernel_rfl

theorem Ch.grown_by {w : World} {k : Nat} {os : Array Obj} : Ch [] w (grow (w.drewN k) os) := by
  refine ⟨rfl, rfl, rfl, ?_, fun i hi _ => ?_⟩
  · show w.heap.size ≤ (w.heap ++ os).size
    simp
  · show (w.heap ++ os)[i]? = w.heap[i]?
    rw [Array.getElem?_append_left hi]

/-- The table that strconv reads. -/
def Tab (w : World) : Prop := Lib.TabIs Tryd.prog w "internal/strconv.uint64pow10" .u64 Lib.pow10Tab
theorem Tab.below {w w' : World} (h : Tab w) (hb : Below w.heap.size w w') : Tab w' := by
  have h' := h
  unfold Tab Lib.TabIs World.var? at h'
  rw [Option.bind_eq_some_iff] at h'
  obtain ⟨g, hg, hc⟩ := h'
  refine var?_below hb hg ?_ h
  rcases Nat.lt_or_ge g w.heap.size with h1 | h1
  · exact h1
  · rw [Array.getElem?_eq_none h1] at hc
    cases hc
theorem Tab.ch {w w' : World} (h : Tab w) (hc : Ch [] w w') : Tab w' := h.below hc.nil_below

theorem numFormat (n : Int) (h0 : -9223372036854775808 ≤ n) (h1 : n ≤ 9223372036854775807) (w : World) (ht : Tab w) :
    Calls Tryd.prog 40 #[.int .i64 n] w fun e w' => e = .returned (.string ⟨(Lib.itoa n).toArray⟩) ∧ Ch [] w w' := by
  go_enter Tryd.func40, Tryd.ntmps40
  go_wp2_with (go_at_call 55; (refine (Any.strconv_Itoa laysItoa n h0 h1 _ ht).mono ?_); rintro e w' ⟨rfl, k, os, rfl⟩)
  go_ret
  exact ⟨rfl, Ch.grown_by⟩

theorem fd1 (n : Int) (h0 : 0 ≤ n) (h1 : n < 10) (w : World) : Calls Tryd.prog 41 #[.int .i64 n] w fun e w' => e = .returned (.string (strOfNums [48 + n])) ∧ Ch [] w w' := by
  have hrun : ∀ w2 : World, (convert 31 9 (.slice (some ⟨w2.heap.size, 0, none⟩) 1 1)).run Tryd.prog (w2.alloc (.cells #[.int .u8 (48 + n)] 5)) = .ok (.string (strOfNums [48 + n])) (w2.alloc (.cells #[.int .u8 (48 + n)] 5)) := fun w2 =>
    run_strOf 31 9 5 Tryd.underlying31 Tryd.underlying5 Tryd.underlying9 _ 1 1 _ [48 + n] (blk_ints (Blk.new w2 5 [.int .u8 (48 + n)]) 0 1 _ rfl (fun i hi => by
      obtain rfl : i = 0 := by simpa using hi
      rfl))
  go_enter Tryd.func41, Tryd.ntmps41
  go_wp2
  go_ret
  exact ⟨rfl, (Ch.refl _ _).alloc _⟩

set_option maxRecDepth 100000 in
set_option maxHeartbeats 2000000 in
theorem fdStep (n : Int) (h0 : 10 ≤ n) (h1 : n < 1000) (ds : List Int) (hl : ds.length ≤ 2) (hF : ∀ w, Calls Tryd.prog 41 #[.int .i64 (n / 10)] w fun e w' => e = .returned (.string (strOfNums ds)) ∧ Ch [] w w') (w : World) :
    Calls Tryd.prog 41 #[.int .i64 n] w fun e w' => e = .returned (.string (strOfNums (ds ++ [48 + n % 10]))) ∧ Ch [] w w' := by
  have m0 : 0 ≤ n % 10 ∧ n % 10 < 10 := by omega
  have q0 : 0 ≤ n / 10 ∧ n / 10 < 100 := by omega
  have hs : (strOfNums ds).size ≤ 2 := by rw [strOf_size]; exact hl
  have hs1 : (strOfNums [48 + n % 10]).size ≤ 1 := by rw [strOf_size]; simp
  have HF := hid hF
  clear hF
  have HRUN : Hid (∀ (w2 w3 : World) (n0 n1 : Nat), Ch [] ((w2.drewN n0).alloc (.cells #[.int .u8 (48 + n % 10)] 5)) w3 → (convert 31 9 (.slice (some ⟨w2.heap.size, 0, none⟩) 1 1)).run Tryd.prog (w3.drewN n1) = .ok (.string (strOfNums [48 + n % 10])) (w3.drewN n1)) := fun w2 w3 n0 n1 C =>
    run_strOf 31 9 5 Tryd.underlying31 Tryd.underlying5 Tryd.underlying9 _ 1 1 _ [48 + n % 10] (blk_ints ((Blk.new (w2.drewN n0) 5 [.int .u8 (48 + n % 10)]).ch (C.drewN n1) (by simp)) 0 1 _ rfl (fun i hi => by
      obtain rfl : i = 0 := by simpa using hi
      rfl))
  go_enter Tryd.func41, Tryd.ntmps41
  go_wp2_with fail
  refine wp_region_tree [⟨0, 1, 1024⟩, ⟨1, 1024, 2048⟩, ⟨2, 2048, 4096⟩, ⟨0, 1, 8192⟩, ⟨8, 8192, 16384⟩, ⟨16, 16384, 32768⟩, ⟨32, 32768, 65536⟩, ⟨64, 65536, 131072⟩, ⟨128, 131072, 262144⟩, ⟨260, 266240, 524288⟩, ⟨1023, 524288, 4⟩] [(2, [3, 4, 5, 6, 8]), (7, [0, 1])] (.two [0, 1, 3, 4, 5, 6] 2 [3, 4, 5, 6] (.one [] 7 [0, 1] (.last [8, 9, 10])) 7 [0, 1] (.one [8] 2 [3, 4, 5, 6, 8] (.last [9, 10]))) (by kernel_rfl) (by kernel_rfl) ?_
  refine wpTree_two ?_
  simp only [pick, List.map_cons, List.map_nil, List.getD_cons_zero, List.getD_cons_succ]
  repeat (go_big_quiet_step (fail))
  refine wpQuiet_nil ?_
  refine ⟨?_, ?_⟩
  · intro n0
    simp only [pick, List.map_cons, List.map_nil, List.getD_cons_zero, List.getD_cons_succ]
    go_wp2_with (go_at_call 41; refine (HF.out _).mono ?_; rintro e w2 ⟨rfl, C1⟩)
    have C2 := ((Ch.refl [] w).drewN n0).trans C1
    refine stagePost_mk ?_ ?_
    · intro o ho
      simp only [pick, List.map_cons, List.map_nil, List.getD_cons_zero, List.getD_cons_succ, List.mem_cons, List.not_mem_nil, or_false] at ho
      rcases ho with rfl | rfl | rfl | rfl
      all_goals
        refine float_any ?_
        repeat (go_big_quiet_step (fail))
        refine wpQuiet_nil ?_
        rfl
    refine wpTree_one ?_
    simp only [pick, List.map_nil]
    refine wpQuiet_nil ?_
    intro n1
    simp only [pick, List.map_cons, List.map_nil, List.getD_cons_zero, List.getD_cons_succ]
    go_wp2
    have hrun := fun k => HRUN.out w2 _ n1 k (Ch.refl _ _)
    refine stagePost_mk ?_ ?_
    · intro o ho
      simp only [pick, List.map_cons, List.map_nil, List.getD_cons_zero, List.getD_cons_succ, List.mem_cons, List.not_mem_nil, or_false] at ho
      rcases ho with rfl | rfl
      all_goals
        refine float_any ?_
        repeat (go_big_quiet_step (fail))
        refine wpQuiet_nil ?_
        rfl
    refine wpTree_last ?_
    simp only [pick, List.map_cons, List.map_nil, List.getD_cons_zero, List.getD_cons_succ]
    repeat (go_big_quiet_step (fail))
    refine wpQuiet_nil ?_
    intro n2
    go_wp2
    go_ret
    exact ⟨by rw [strOf_append]; rfl, (C2.trans (((Ch.refl _ _).drewN n1).alloc _)).drewN n2⟩
  · intro n0
    simp only [pick, List.map_cons, List.map_nil, List.getD_cons_zero, List.getD_cons_succ]
    go_wp2
    have hrun := fun k => HRUN.out w _ n0 k (Ch.refl _ _)
    have C1 : Ch [] w ((w.drewN n0).alloc (.cells #[.int .u8 (48 + n % 10)] 5)) := ((Ch.refl _ _).drewN _).alloc _
    refine stagePost_mk ?_ ?_
    · intro o ho
      simp only [pick, List.map_cons, List.map_nil, List.getD_cons_zero, List.getD_cons_succ, List.mem_cons, List.not_mem_nil, or_false] at ho
      rcases ho with rfl | rfl
      all_goals
        refine float_any ?_
        repeat (go_big_quiet_step (fail))
        refine wpQuiet_nil ?_
        rfl
    refine wpTree_one ?_
    simp only [pick, List.map_cons, List.map_nil, List.getD_cons_zero, List.getD_cons_succ]
    repeat (go_big_quiet_step (fail))
    refine wpQuiet_nil ?_
    intro n1
    simp only [pick, List.map_cons, List.map_nil, List.getD_cons_zero, List.getD_cons_succ]
    go_wp2_with (go_at_call 41; refine (HF.out _).mono ?_; rintro e w2 ⟨rfl, C2⟩)
    have C3 := ((Ch.refl [] ((w.drewN n0).alloc (.cells #[.int .u8 (48 + n % 10)] 5))).drewN n1).trans C2
    have hrun2 := fun k => HRUN.out w _ n0 k C3
    refine stagePost_mk ?_ ?_
    · intro o ho
      simp only [pick, List.map_cons, List.map_nil, List.getD_cons_zero, List.getD_cons_succ, List.mem_cons, List.not_mem_nil, or_false] at ho
      rcases ho with rfl | rfl | rfl | rfl | rfl
      all_goals
        refine float_any ?_
        repeat (go_big_quiet_step (fail))
        refine wpQuiet_nil ?_
        rfl
    refine wpTree_last ?_
    simp only [pick, List.map_cons, List.map_nil, List.getD_cons_zero, List.getD_cons_succ]
    repeat (go_big_quiet_step (fail))
    refine wpQuiet_nil ?_
    intro n2
    go_wp2
    go_ret
    exact ⟨by rw [strOf_append]; rfl, (C1.trans C3).drewN n2⟩
theorem fd3 (n : Int) (h0 : 100 ≤ n) (h1 : n < 1000) (w : World) : Calls Tryd.prog 41 #[.int .i64 n] w fun e w' => e = .returned (.string (strOfNums [48 + n / 10 / 10, 48 + n / 10 % 10, 48 + n % 10])) ∧ Ch [] w w' :=
  fdStep n (by omega) h1 [48 + n / 10 / 10, 48 + n / 10 % 10] (by simp) (fun w => fdStep (n / 10) (by omega) (by omega) [48 + n / 10 / 10] (by simp) (fun w => fd1 (n / 10 / 10) (by omega) (by omega) w) w) w
end Go.Proofs.YtidfigehahfpeaaDoor
