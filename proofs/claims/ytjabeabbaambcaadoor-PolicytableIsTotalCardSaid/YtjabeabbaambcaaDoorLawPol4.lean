/- PolicytableIsTotal. -/
import Derived.Test.YtjabeabbaambcaaDoorLawPol0
import Derived.Test.YtjabeabbaambcaaDoorShellD
import Derived.Test.YtjabeabbaambcaaDoorHelpRX
import Derived.Test.YtjabeabbaambcaaDoorRows
namespace Go.Proofs.YtjabeabbaambcaaDoor
open Go.ChangeShapes Go.WideShapes Go.ChangeAt Go.RowKit

theorem look_pos {six : Bool} {av : List Int} (hg : GoodA av) : decide (0 ≤ (lookP six av).2.1) = validA six av ∧ decide (0 ≤ (lookP six av).2.2) = validA six av := by
  rw [look_same hg.1 hg.2]
  cases hv : validA six av with
  | false => rw [if_neg (by decide)]; exact ⟨rfl, rfl⟩
  | true =>
    rw [if_pos rfl]
    have := pol_pos _ (look_mem six av)
    exact ⟨by simpa using this.1, by simpa using this.2⟩
set_option maxRecDepth 20000 in
set_option maxHeartbeats 8000000 in
theorem policytableIsTotal_came {H : Type} {enc : TypeId × Value → H} (W : World) (args : Array Value) (ds : List (DataW H)) (_ : laidMetH Tryd.prog Rows.policytableIsTotalRow.laid W) (h : Came enc Tryd.prog Tryd.f12 W args ds) :
    Calls Tryd.prog 12 args W fun e W' => e = .returned (.bool true) ∧ Below W.heap.size W W' := by
  obtain ⟨v0, d0, rfl, a0⟩ := h.args1 rfl
  obtain ⟨six, av, rfl, hga⟩ := a0.addr
  clear h a0
  have H1 := hid (polPrec six av hga)
  have H2 := hid (polLab six av hga)
  have H3 := hid (scopeW six av hga)
  have HV := hid (refValid six av hga.1)
  have HI := hid (addr_inf (six := six) hga.1)
  have HG : Hid (∀ x ∈ polT, x.1.2.1.length = 16) := fun x hx => (pol_good x hx).2.1
  obtain ⟨p1, p2⟩ := look_pos (six := six) hga
  have p3 := scope_pos (six := six) hga.1 hga.2
  have BA : Blk (W.alloc (.cells (addrC six av).toArray 29)) W.heap.size 29 (addrC six av) := Blk.new W _ _
  have CC : Ch [] W (W.alloc (.cells (addrC six av).toArray 29)) := (Ch.refl _ _).alloc _
  generalize (lookP six av).2.1 = P at H1 p1
  generalize (lookP six av).2.2 = L at H2 p2
  generalize scopeP six av = S at H3 p3
  generalize validA six av = V at HV p1 p2 p3
  generalize addrC six av = cs at BA CC HI H1 H2 H3 HV ⊢
  clear hga
  cases V
  all_goals
    go_enter Tryd.func12, Tryd.ntmps12
    go_wp2_with (first
      | (go_at_call 55; (with_reducible refine (rowList _).mono ?_); rintro e w1 ⟨T1, rfl, own1, C1⟩; have BA1 := BA.ch C1 (by simp); have CC1 := CC.trans C1)
      | (go_at_call 54; (with_reducible refine (ovrROwn w1 _ _ _ _ _ _ own1 (by omega)).mono ?_); rintro e w2 ⟨rfl, C2⟩; have BA0 := BA1.ch C2 (fun hm => by have h1 := (own1.blks _ hm).1; have h2 := BA.lt; omega); have CC0 : Ch [] W w2 := CC1.step C2 (fun g hg => .inr (by have h1 := (own1.blks g hg).1; have h2 := CC.size; omega))))
    try simp only [Act.put, List.setIfInBounds_toArray, List.set_cons_succ, List.set_cons_zero]
    clear BA CC BA1 CC1 own1 C1 C2
    refine wp_region_stagesM [⟨0, 0, 32⟩, ⟨1, 32, 64⟩, ⟨2, 64, 128⟩, ⟨6, 64, 256⟩, ⟨14, 448, 512⟩, ⟨18, 576, 1024⟩, ⟨48, 1024, 2048⟩, ⟨64, 2050, 4096⟩, ⟨192, 6144, 8192⟩, ⟨320, 10240, 16384⟩, ⟨64, 2050, 32768⟩, ⟨1344, 34816, 65536⟩, ⟨2624, 83968, 131072⟩, ⟨4160, 133120, 262144⟩, ⟨10240, 262144, 524288⟩, ⟨16384, 524290, 1048576⟩, ⟨49152, 1572864, 2097152⟩, ⟨81920, 2621440, 4194304⟩, ⟨16384, 524290, 8388608⟩, ⟨344064, 8912896, 16777216⟩, ⟨671744, 21495808, 33554432⟩, ⟨1064960, 34078720, 67108864⟩, ⟨2621440, 67108864, 134217728⟩, ⟨4194304, 134217730, 268435456⟩, ⟨12582912, 402653184, 536870912⟩, ⟨20971520, 671088640, 1073741824⟩, ⟨4194304, 134217730, 2147483648⟩, ⟨88080384, 2281701376, 4294967296⟩, ⟨171966464, 5502926848, 8589934592⟩, ⟨272629760, 8724152320, 17179869184⟩, ⟨1073741823, 17179869184, 4⟩] [([], 0, []), ([1], 2, []), ([], 3, []), ([], 4, []), ([5, 6, 7, 10], 8, [10]), ([9], 11, [9]), ([12, 13, 14, 15, 18], 16, [18]), ([17], 19, [17]), ([20, 21, 22, 23, 26], 24, [26]), ([25], 27, [25])] [28, 29, 30] (by kernel_rfl) (by kernel_rfl) ?_
    refine wpStages_step ?_
    try simp only [pick, List.map_nil]
    repeat (first
      | (refine wpQuiet_row rfl 29 _ rfl W.heap.size 0 rfl cs _ (fun w' ⟨q, hq⟩ => hq ▸ (BA0.drewN q).range) Tryd.underlying29 rfl HI.out ?_; simp only [Act.put, List.setIfInBounds_toArray, List.set_cons_succ, List.set_cons_zero])
      | go_big_quiet_step (fail))
    refine wpQuiet_nil ?_
    intro n0
    try simp only [pick, List.map_cons, List.map_nil, List.getD_cons_zero]
    go_wp2_with (go_at_call 46; (with_reducible refine (awake24 _).mono ?_); rintro e u1 ⟨rfl, Cn⟩; have BA1 := (BA0.drewN n0).ch Cn (by simp); have CC1 := (CC0.drewN n0).trans Cn)
    refine stagePost_mk ?_ ?_
    · intro o ho; simp [pick] at ho
    refine wpStages_step ?_
    try simp only [pick, List.map_cons, List.map_nil, List.getD_cons_zero, List.getD_cons_succ]
    repeat (first
      | (refine wpQuiet_row rfl 29 _ rfl W.heap.size 0 rfl cs _ (fun w' ⟨q, hq⟩ => hq ▸ (BA1.drewN q).range) Tryd.underlying29 rfl HI.out ?_; simp only [Act.put, List.setIfInBounds_toArray, List.set_cons_succ, List.set_cons_zero])
      | go_big_quiet_step (fail))
    refine wpQuiet_nil ?_
    intro n1
    try simp only [pick, List.map_cons, List.map_nil, List.getD_cons_zero, List.getD_cons_succ]
    go_wp2_with (go_at_call 55; (with_reducible refine (rowList _).mono ?_); rintro e u2 ⟨T2, rfl, own2, Cn⟩; have BA2 := (BA1.drewN n1).ch Cn (by simp); have CC2 := (CC1.drewN n1).trans Cn)
    refine stagePost_mk ?_ ?_
    · intro o ho; simp [pick] at ho
    refine wpStages_step ?_
    try simp only [pick, List.map_nil]
    repeat (first
      | (refine wpQuiet_row rfl 29 _ rfl W.heap.size 0 rfl cs _ (fun w' ⟨q, hq⟩ => hq ▸ (BA2.drewN q).range) Tryd.underlying29 rfl HI.out ?_; simp only [Act.put, List.setIfInBounds_toArray, List.set_cons_succ, List.set_cons_zero])
      | go_big_quiet_step (fail))
    refine wpQuiet_nil ?_
    intro n2
    try simp only [pick, List.map_cons, List.map_nil, List.getD_cons_zero, List.getD_cons_succ]
    go_wp2_with (go_at_call 48; (with_reducible refine (refRows _).mono ?_); rintro e u3 ⟨T3, c3, rfl, own3, Cn⟩; have BA3 := (BA2.drewN n2).ch Cn (by simp); have CC3 := (CC2.drewN n2).trans Cn; have own2b := (own2.drewN n2).ch Cn (by simp))
    refine stagePost_mk ?_ ?_
    · intro o ho; simp [pick] at ho
    refine wpStages_step ?_
    try simp only [pick, List.map_nil]
    repeat (first
      | (refine wpQuiet_row rfl 29 _ rfl W.heap.size 0 rfl cs _ (fun w' ⟨q, hq⟩ => hq ▸ (BA3.drewN q).range) Tryd.underlying29 rfl HI.out ?_; simp only [Act.put, List.setIfInBounds_toArray, List.set_cons_succ, List.set_cons_zero])
      | go_big_quiet_step (fail))
    refine wpQuiet_nil ?_
    intro n3
    try simp only [pick, List.map_cons, List.map_nil, List.getD_cons_zero, List.getD_cons_succ]
    go_wp2_with (go_at_call 56; (with_reducible refine (eqEqR _ _ _ 9 _ _ _ _ polT (own2b.drewN n3).rd (own3.drewN n3).rd (Nat.le_refl _) (Nat.le_refl _) (by omega) HG.out).mono ?_); rintro e u4 ⟨rfl, Cn⟩; have BA4 := (BA3.drewN n3).ch Cn (by simp); have CC4 := (CC3.drewN n3).trans Cn)
    refine stagePost_mk ?_ ?_
    · intro o ho; simp [pick] at ho
    refine wpStages_step ?_
    try simp only [pick, List.map_cons, List.map_nil, List.getD_cons_zero, List.getD_cons_succ]
    repeat (first
      | (refine wpQuiet_row rfl 29 _ rfl W.heap.size 0 rfl cs _ (fun w' ⟨q, hq⟩ => hq ▸ (BA4.drewN q).range) Tryd.underlying29 rfl HI.out ?_; simp only [Act.put, List.setIfInBounds_toArray, List.set_cons_succ, List.set_cons_zero])
      | go_big_quiet_step (fail))
    refine wpQuiet_nil ?_
    intro n4
    try simp only [pick, List.map_cons, List.map_nil, List.getD_cons_zero, List.getD_cons_succ]
    go_wp2_with (go_at_call 50; (with_reducible refine (H1.out _).mono ?_); rintro e u5 ⟨rfl, Cn⟩; have BA5 := (BA4.drewN n4).ch Cn (by simp); have CC5 := (CC4.drewN n4).trans Cn)
    refine stagePost_mk ?_ ?_
    · intro o ho
      simp only [pick, List.map_cons, List.map_nil, List.getD_cons_zero, List.getD_cons_succ, List.mem_cons, List.not_mem_nil, or_false] at ho
      obtain rfl := ho
      refine float_any ?_
      repeat (first
        | (refine wpQuiet_row rfl 29 _ rfl W.heap.size 0 rfl cs _ (fun w' ⟨q, hq⟩ => hq ▸ (BA5.drewN q).range) Tryd.underlying29 rfl HI.out ?_; simp only [Act.put, List.setIfInBounds_toArray, List.set_cons_succ, List.set_cons_zero])
        | go_big_quiet_step (fail))
      refine wpQuiet_nil ?_
      rfl
    refine wpStages_step ?_
    try simp only [pick, List.map_cons, List.map_nil, List.getD_cons_zero, List.getD_cons_succ]
    repeat (first
      | (refine wpQuiet_row rfl 29 _ rfl W.heap.size 0 rfl cs _ (fun w' ⟨q, hq⟩ => hq ▸ (BA5.drewN q).range) Tryd.underlying29 rfl HI.out ?_; simp only [Act.put, List.setIfInBounds_toArray, List.set_cons_succ, List.set_cons_zero])
      | go_big_quiet_step (fail))
    refine wpQuiet_nil ?_
    intro n5
    try simp only [pick, List.map_cons, List.map_nil, List.getD_cons_zero, List.getD_cons_succ]
    go_wp2_with (go_at_call 30; (with_reducible refine (HV.out _).mono ?_); rintro e u6 ⟨rfl, Cn⟩; have BA6 := (BA5.drewN n5).ch Cn (by simp); have CC6 := (CC5.drewN n5).trans Cn)
    refine stagePost_mk ?_ ?_
    · intro o ho
      simp only [pick, List.map_cons, List.map_nil, List.getD_cons_zero, List.getD_cons_succ, List.mem_cons, List.not_mem_nil, or_false] at ho
      obtain rfl := ho
      refine float_any ?_
      repeat (first
        | (refine wpQuiet_row rfl 29 _ rfl W.heap.size 0 rfl cs _ (fun w' ⟨q, hq⟩ => hq ▸ (BA6.drewN q).range) Tryd.underlying29 rfl HI.out ?_; simp only [Act.put, List.setIfInBounds_toArray, List.set_cons_succ, List.set_cons_zero])
        | go_big_quiet_step (fail))
      refine wpQuiet_nil ?_
      rfl
    refine wpStages_step ?_
    try simp only [pick, List.map_cons, List.map_nil, List.getD_cons_zero, List.getD_cons_succ]
    repeat (first
      | (refine wpQuiet_row rfl 29 _ rfl W.heap.size 0 rfl cs _ (fun w' ⟨q, hq⟩ => hq ▸ (BA6.drewN q).range) Tryd.underlying29 rfl HI.out ?_; simp only [Act.put, List.setIfInBounds_toArray, List.set_cons_succ, List.set_cons_zero])
      | go_big_quiet_step (fail))
    refine wpQuiet_nil ?_
    intro n6
    try simp only [pick, List.map_cons, List.map_nil, List.getD_cons_zero, List.getD_cons_succ]
    go_wp2_with (go_at_call 51; (with_reducible refine (H2.out _).mono ?_); rintro e u7 ⟨rfl, Cn⟩; have BA7 := (BA6.drewN n6).ch Cn (by simp); have CC7 := (CC6.drewN n6).trans Cn)
    refine stagePost_mk ?_ ?_
    · intro o ho
      simp only [pick, List.map_cons, List.map_nil, List.getD_cons_zero, List.getD_cons_succ, List.mem_cons, List.not_mem_nil, or_false] at ho
      obtain rfl := ho
      refine float_any ?_
      repeat (first
        | (refine wpQuiet_row rfl 29 _ rfl W.heap.size 0 rfl cs _ (fun w' ⟨q, hq⟩ => hq ▸ (BA7.drewN q).range) Tryd.underlying29 rfl HI.out ?_; simp only [Act.put, List.setIfInBounds_toArray, List.set_cons_succ, List.set_cons_zero])
        | go_big_quiet_step (fail))
      refine wpQuiet_nil ?_
      rfl
    refine wpStages_step ?_
    try simp only [pick, List.map_cons, List.map_nil, List.getD_cons_zero, List.getD_cons_succ]
    repeat (first
      | (refine wpQuiet_row rfl 29 _ rfl W.heap.size 0 rfl cs _ (fun w' ⟨q, hq⟩ => hq ▸ (BA7.drewN q).range) Tryd.underlying29 rfl HI.out ?_; simp only [Act.put, List.setIfInBounds_toArray, List.set_cons_succ, List.set_cons_zero])
      | go_big_quiet_step (fail))
    refine wpQuiet_nil ?_
    intro n7
    try simp only [pick, List.map_cons, List.map_nil, List.getD_cons_zero, List.getD_cons_succ]
    go_wp2_with (go_at_call 30; (with_reducible refine (HV.out _).mono ?_); rintro e u8 ⟨rfl, Cn⟩; have BA8 := (BA7.drewN n7).ch Cn (by simp); have CC8 := (CC7.drewN n7).trans Cn)
    refine stagePost_mk ?_ ?_
    · intro o ho
      simp only [pick, List.map_cons, List.map_nil, List.getD_cons_zero, List.getD_cons_succ, List.mem_cons, List.not_mem_nil, or_false] at ho
      obtain rfl := ho
      refine float_any ?_
      repeat (first
        | (refine wpQuiet_row rfl 29 _ rfl W.heap.size 0 rfl cs _ (fun w' ⟨q, hq⟩ => hq ▸ (BA8.drewN q).range) Tryd.underlying29 rfl HI.out ?_; simp only [Act.put, List.setIfInBounds_toArray, List.set_cons_succ, List.set_cons_zero])
        | go_big_quiet_step (fail))
      refine wpQuiet_nil ?_
      rfl
    refine wpStages_step ?_
    try simp only [pick, List.map_cons, List.map_nil, List.getD_cons_zero, List.getD_cons_succ]
    repeat (first
      | (refine wpQuiet_row rfl 29 _ rfl W.heap.size 0 rfl cs _ (fun w' ⟨q, hq⟩ => hq ▸ (BA8.drewN q).range) Tryd.underlying29 rfl HI.out ?_; simp only [Act.put, List.setIfInBounds_toArray, List.set_cons_succ, List.set_cons_zero])
      | go_big_quiet_step (fail))
    refine wpQuiet_nil ?_
    intro n8
    try simp only [pick, List.map_cons, List.map_nil, List.getD_cons_zero, List.getD_cons_succ]
    go_wp2_with (go_at_call 52; (with_reducible refine (H3.out _).mono ?_); rintro e u9 ⟨rfl, Cn⟩; have BA9 := (BA8.drewN n8).ch Cn (by simp); have CC9 := (CC8.drewN n8).trans Cn)
    refine stagePost_mk ?_ ?_
    · intro o ho
      simp only [pick, List.map_cons, List.map_nil, List.getD_cons_zero, List.getD_cons_succ, List.mem_cons, List.not_mem_nil, or_false] at ho
      obtain rfl := ho
      refine float_any ?_
      repeat (first
        | (refine wpQuiet_row rfl 29 _ rfl W.heap.size 0 rfl cs _ (fun w' ⟨q, hq⟩ => hq ▸ (BA9.drewN q).range) Tryd.underlying29 rfl HI.out ?_; simp only [Act.put, List.setIfInBounds_toArray, List.set_cons_succ, List.set_cons_zero])
        | go_big_quiet_step (fail))
      refine wpQuiet_nil ?_
      rfl
    refine wpStages_step ?_
    try simp only [pick, List.map_cons, List.map_nil, List.getD_cons_zero, List.getD_cons_succ]
    repeat (first
      | (refine wpQuiet_row rfl 29 _ rfl W.heap.size 0 rfl cs _ (fun w' ⟨q, hq⟩ => hq ▸ (BA9.drewN q).range) Tryd.underlying29 rfl HI.out ?_; simp only [Act.put, List.setIfInBounds_toArray, List.set_cons_succ, List.set_cons_zero])
      | go_big_quiet_step (fail))
    refine wpQuiet_nil ?_
    intro n9
    try simp only [pick, List.map_cons, List.map_nil, List.getD_cons_zero, List.getD_cons_succ]
    go_wp2_with (go_at_call 30; (with_reducible refine (HV.out _).mono ?_); rintro e u10 ⟨rfl, Cn⟩; have BA10 := (BA9.drewN n9).ch Cn (by simp); have CC10 := (CC9.drewN n9).trans Cn)
    refine stagePost_mk ?_ ?_
    · intro o ho
      simp only [pick, List.map_cons, List.map_nil, List.getD_cons_zero, List.getD_cons_succ, List.mem_cons, List.not_mem_nil, or_false] at ho
      obtain rfl := ho
      refine float_any ?_
      repeat (first
        | (refine wpQuiet_row rfl 29 _ rfl W.heap.size 0 rfl cs _ (fun w' ⟨q, hq⟩ => hq ▸ (BA10.drewN q).range) Tryd.underlying29 rfl HI.out ?_; simp only [Act.put, List.setIfInBounds_toArray, List.set_cons_succ, List.set_cons_zero])
        | go_big_quiet_step (fail))
      refine wpQuiet_nil ?_
      rfl
    refine wpStages_last ?_
    try simp only [pick, List.map_cons, List.map_nil, List.getD_cons_zero, List.getD_cons_succ]
    repeat (go_big_quiet_step (fail))
    refine wpQuiet_nil ?_
    intro nz
    go_wp2_with fail
    go_ret
    exact ⟨rfl, (CC10.drewN nz).nil_below⟩
end Go.Proofs.YtjabeabbaambcaaDoor
