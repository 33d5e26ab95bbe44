/- ginnelgen: User, Password, Tenant (printed by mk_teng.py). -/
import Derived.Test.YtbmbnibamhgfmaaDoorTenN
import Derived.Test.YtbmbnibamhgfmaaDoorML
namespace Go.Proofs.YtbmbnibamhgfmaaDoor
open Go.RowKit

def userB (i : Int) : ByteArray := strOfNums [97 + modI i 8]
def passB (i : Int) : ByteArray := ⟨#[112]⟩ ++ userB i
theorem genUser (i : Int) (w : World) : Calls Tryd.prog 14 #[.int .i64 i] w fun e w' => e = .returned (.string (userB i)) ∧ Ch [] w w' := by
  obtain ⟨m0, m1⟩ := modI_rng i 8 (by omega)
  have M := hid (fun w => genMod i 8 w (by omega) (by omega))
  unfold userB
  generalize modI i 8 = k at m0 m1 M
  have h1 : IntKind.u8.wrap k = k := IntWalk.u8_in _ (by omega)
  have h2 : IntKind.u8.wrap (97 + k) = 97 + k := IntWalk.u8_in _ (by omega)
  go_enter Tryd.func14, Tryd.ntmps14
  go_wp2_with (first
    | go_big_skip
    | (go_at_call 9; (with_reducible refine (M.out _).mono ?_); rintro e w2 ⟨rfl, rfl⟩)
    | (refine wpList_strOf rfl 82 9 5 _ rfl Tryd.underlying82 Tryd.underlying5 Tryd.underlying9 (some ⟨w.heap.size, 0, none⟩) 1 1 (w.heap.size + 1) [97 + k] rfl (Rd.ints (Rd.new w 1 [Value.int .u8 (97 + k)] 1 rfl _)) ?_))
  go_ret
  exact ⟨rfl, (Ch.refl _ _).alloc _⟩
theorem userB_size (i : Int) : (userB i).size = 1 := by unfold userB; rw [strOf_size]; rfl
theorem passB_size (i : Int) : (passB i).size = 2 := by unfold passB; rw [ByteArray.size_append, userB_size]; rfl
theorem genPass (i : Int) (w : World) : Calls Tryd.prog 15 #[.int .i64 i] w fun e w' => e = .returned (.string (passB i)) ∧ Ch [] w w' := by
  have M := hid (genUser i)
  have hs := userB_size i
  unfold passB
  generalize userB i = u at M hs
  have hl : ¬ 9223372036854775807 < 1 + u.size := by omega
  go_enter Tryd.func15, Tryd.ntmps15
  go_wp2_with (first
    | go_big_skip
    | (go_at_call 14; (with_reducible refine (M.out _).mono ?_); rintro e w2 ⟨rfl, D⟩))
  go_ret
  exact ⟨rfl, D⟩
/-- A tenant as gen.Tenant makes it. -/
structure OkT (i : Int) (t : Tn) : Prop where
  u : t.u = userB i
  p : t.p = passB i
  L : ∀ r ∈ t.L, OkR r
  n : t.L.length ≤ 4 + 2
  b0 : 0 ≤ t.b
  b1 : t.b ≤ 30
  w0 : 1 ≤ t.w
  w1 : t.w ≤ 60
  m0 : 1 ≤ t.m
  m1 : t.m ≤ 5
set_option maxRecDepth 100000 in
set_option maxHeartbeats 100000000 in
theorem genTen (w : World) (t : Tn) (i : Int) (B : Nat) (hg : GoodTn t) (hw0 : 0 ≤ t.w) (hr : Rd w B 22 t.A t.L.length (t.L.flatMap rulC)) (hB : B ≤ w.heap.size) :
    Calls Tryd.prog 30 #[.agg (tnC t).toArray, .int .i64 i] w fun e w' => (∃ t' : Tn, e = .returned (.agg (tnC t').toArray) ∧ OkT i t' ∧ Own w' w.heap.size 61 22 t'.A t'.L.length t'.c (t'.L.flatMap rulC) ∧ ∀ b ∈ blkOf t'.A, w.heap.size + 2 ≤ b) ∧ Ch [] w w' := by
  have HRU : Hid (∀ w', Ch [] w w' → ∀ b : Bool, Calls Tryd.prog 53 #[.slice t.A t.L.length t.c, .int .i64 4, .bool b] w' (RulesRes w' 4 b)) := fun w' c b => genRules w' t.A t.L.length t.c B t.L (hr.ch c hB (by simp)) (Nat.le_trans hB c.size) hg.n hg.L 4 (by omega) b
  have HI6 := hid tn_info
  clear hg hr
  obtain ⟨tu, tp, tA, tc, tL, tb, tw, tm⟩ := t
  simp only at HRU hw0
  show Calls Tryd.prog 30 #[.agg #[.string tu, .string tp, .slice tA tL.length tc, .int .i64 tb, .int .u64 tw, .int .i64 tm], .int .i64 i] w _
  generalize tL.length = n at HRU ⊢
  have HUS := hid (genUser i)
  have HPS := hid (genPass i)
  have HM8 := hid (fun w => genMod tm 8 w (by omega) (by omega))
  obtain ⟨q0, q1⟩ := modI_rng tm 5 (by omega)
  have HM5 := hid (fun w => genMod tm 5 w (by omega) (by omega))
  have HM3 := hid (fun w => genMod tb 3 w (by omega) (by omega))
  obtain ⟨x0, x1⟩ := modI_rng tb 5 (by omega)
  have HB5 := hid (fun w => genMod tb 5 w (by omega) (by omega))
  generalize hus : userB i = us at HUS
  generalize hps : passB i = ps at HPS
  have HUQ := hid hus
  have HPQ := hid hps
  clear hus hps
  generalize modI tm 8 = k8 at HM8
  generalize modI tm 5 = k5 at q0 q1 HM5
  generalize modI tb 3 = k3 at HM3
  generalize modI tb 5 = b5 at x0 x1 HB5
  go_enter Tryd.func30, Tryd.ntmps30
  go_upto_region 1 with fail
  have BP : Blk ((w.alloc (.cells #[.string tu, .string tp, .slice tA n tc, .int .i64 tb, .int .u64 tw, .int .i64 tm] 47)).alloc (.cells #[.string ⟨#[]⟩, .string ⟨#[]⟩, .slice none 0 0, .int .i64 0, .int .u64 0, .int .i64 0] 47)) w.heap.size 47 [.string tu, .string tp, .slice tA n tc, .int .i64 tb, .int .u64 tw, .int .i64 tm] := (Blk.new w _ _).alloc _
  have BR : Blk ((w.alloc (.cells #[.string tu, .string tp, .slice tA n tc, .int .i64 tb, .int .u64 tw, .int .i64 tm] 47)).alloc (.cells #[.string ⟨#[]⟩, .string ⟨#[]⟩, .slice none 0 0, .int .i64 0, .int .u64 0, .int .i64 0] 47)) (w.heap.size + 1) 47 (tnC tn0) := Blk.newAt _ _ (tnC tn0) (by simp)
  have CX : Ch [] w ((w.alloc (.cells #[.string tu, .string tp, .slice tA n tc, .int .i64 tb, .int .u64 tw, .int .i64 tm] 47)).alloc (.cells #[.string ⟨#[]⟩, .string ⟨#[]⟩, .slice none 0 0, .int .i64 0, .int .u64 0, .int .i64 0] 47)) := ((Ch.refl _ _).alloc _).alloc _
  generalize (w.alloc (.cells #[.string tu, .string tp, .slice tA n tc, .int .i64 tb, .int .u64 tw, .int .i64 tm] 47)).alloc (.cells #[.string ⟨#[]⟩, .string ⟨#[]⟩, .slice none 0 0, .int .i64 0, .int .u64 0, .int .i64 0] 47) = w1 at BP BR CX ⊢
  have e2 : w1.cell? ⟨w.heap.size, 2, none⟩ = some (.slice tA n tc) := BP.cell 2
  have e4 : w1.cell? ⟨w.heap.size, 4, none⟩ = some (.int .u64 tw) := BP.cell 4
  have e5 : w1.cell? ⟨w.heap.size, 5, none⟩ = some (.int .i64 tm) := BP.cell 5
  refine wp_region_tree [⟨0, 2, 64⟩, ⟨1, 64, 128⟩, ⟨0, 2, 256⟩, ⟨6, 256, 512⟩, ⟨0, 4, 1024⟩, ⟨16, 1024, 2048⟩, ⟨0, 4, 4096⟩, ⟨64, 4096, 8192⟩, ⟨136, 8192, 16384⟩, ⟨256, 16384, 32768⟩, ⟨800, 34816, 65536⟩, ⟨0, 4, 131072⟩, ⟨2048, 131072, 262144⟩, ⟨4096, 262144, 524288⟩, ⟨8192, 524288, 1048576⟩, ⟨0, 4, 2097152⟩, ⟨32768, 2097152, 4194304⟩, ⟨66560, 4194304, 8388608⟩, ⟨131072, 8388608, 16777216⟩, ⟨279562, 17891968, 33554432⟩, ⟨0, 0, 32⟩, ⟨2097151, 33554464, 0⟩] [(1, [2, 4, 5, 6, 7, 11, 12, 13, 14, 15, 16]), (3, [4, 5, 6, 7, 11, 12, 13, 14, 15, 16]), (10, [11, 12, 13, 14, 15, 16]), (20, [0, 2, 4, 5, 6, 7, 8, 9, 11, 12, 13, 14, 15, 16, 17, 18, 19]), (21, [])] (.two [0, 2, 4, 5, 6, 7, 11, 12, 13, 14, 15, 16] 1 [2, 4, 5, 6, 7, 11, 12, 13, 14, 15, 16] (.two [] 3 [4, 5, 6, 7, 11, 12, 13, 14, 15, 16] (.two [8, 9] 10 [11, 12, 13, 14, 15, 16] (.one [17, 18, 19] 20 [0, 2, 4, 5, 6, 7, 11, 12, 13, 14, 15, 16, 8, 9, 17, 18, 19] (.one [] 21 [] (.last []))) 20 [0, 2, 4, 5, 6, 7, 11, 12, 13, 14, 15, 16, 8, 9] (.one [] 10 [11, 12, 13, 14, 15, 16] (.one [17, 18, 19] 21 [] (.last [])))) 20 [0, 2, 4, 5, 6, 7, 11, 12, 13, 14, 15, 16] (.one [] 3 [4, 5, 6, 7, 11, 12, 13, 14, 15, 16] (.one [8, 9] 10 [11, 12, 13, 14, 15, 16] (.one [17, 18, 19] 21 [] (.last []))))) 20 [0, 2, 4, 5, 6, 7, 11, 12, 13, 14, 15, 16] (.one [] 1 [2, 4, 5, 6, 7, 11, 12, 13, 14, 15, 16] (.one [] 3 [4, 5, 6, 7, 11, 12, 13, 14, 15, 16] (.one [8, 9] 10 [11, 12, 13, 14, 15, 16] (.one [17, 18, 19] 21 [] (.last [])))))) (by kernel_rfl) (by kernel_rfl) ?_
  refine wpTree_two ?_
  try simp only [pick, List.map_cons, List.map_nil, List.getD_cons_zero, List.getD_cons_succ]
  repeat (first
    | go_big_quiet_step (first
      | (go_at_call 9; with_reducible exact quiet_eq (HM8.out _))
      | (go_at_call 9; with_reducible exact quiet_eq (HM5.out _))))
  refine wpQuiet_nil ?_
  refine ⟨?_, ?_⟩
  · skip
    intro n0
    try simp only [pick, List.map_cons, List.map_nil, List.getD_cons_zero, List.getD_cons_succ]
    go_wp2_with (go_at_call 14; (with_reducible refine (HUS.out _).mono ?_); rintro e b0 ⟨rfl, Dn0⟩)
    have En0 := ((Ch.refl [] w1).drewN n0).trans Dn0
    replace BP := BP.ch En0 (by simp)
    replace BR := BR.ch En0 (by simp)
    replace CX := CX.trans En0
    clear En0 e2 e4 e5
    have e2 : b0.cell? ⟨w.heap.size, 2, none⟩ = some (.slice tA n tc) := BP.cell 2
    have e4 : b0.cell? ⟨w.heap.size, 4, none⟩ = some (.int .u64 tw) := BP.cell 4
    have e5 : b0.cell? ⟨w.heap.size, 5, none⟩ = some (.int .i64 tm) := BP.cell 5
    refine stagePost_mk ?_ ?_
    · intro o ho
      simp only [pick, List.map_cons, List.map_nil, List.getD_cons_zero, List.getD_cons_succ, List.mem_cons, List.not_mem_nil, or_false] at ho
      rcases ho with rfl | rfl | rfl | rfl | rfl | rfl | rfl | rfl | rfl | rfl | rfl
      all_goals
        refine float_any ?_
        repeat (first
          | go_big_quiet_step (first
            | (go_at_call 9; with_reducible exact quiet_eq (HM8.out _))
            | (go_at_call 9; with_reducible exact quiet_eq (HM5.out _))))
        refine wpQuiet_nil ?_
        rfl
    refine wpTree_two ?_
    try simp only [pick, List.map_nil]
    repeat (first
      | go_big_quiet_step (first
        | (go_at_call 9; with_reducible exact quiet_eq (HM8.out _))
        | (go_at_call 9; with_reducible exact quiet_eq (HM5.out _))))
    refine wpQuiet_nil ?_
    refine ⟨?_, ?_⟩
    · skip
      intro n1
      try simp only [pick, List.map_cons, List.map_nil, List.getD_cons_zero, List.getD_cons_succ]
      go_wp2_with (go_at_call 15; (with_reducible refine (HPS.out _).mono ?_); rintro e p1 ⟨rfl, Dn1⟩)
      have En1 := ((Ch.refl [] b0).drewN n1).trans Dn1
      replace BP := BP.ch En1 (by simp)
      replace BR := BR.ch En1 (by simp)
      replace CX := CX.trans En1
      clear En1 e2 e4 e5
      have e2 : p1.cell? ⟨w.heap.size, 2, none⟩ = some (.slice tA n tc) := BP.cell 2
      have e4 : p1.cell? ⟨w.heap.size, 4, none⟩ = some (.int .u64 tw) := BP.cell 4
      have e5 : p1.cell? ⟨w.heap.size, 5, none⟩ = some (.int .i64 tm) := BP.cell 5
      refine stagePost_mk ?_ ?_
      · intro o ho
        simp only [pick, List.map_cons, List.map_nil, List.getD_cons_zero, List.getD_cons_succ, List.mem_cons, List.not_mem_nil, or_false] at ho
        rcases ho with rfl | rfl | rfl | rfl | rfl | rfl | rfl | rfl | rfl | rfl
        all_goals
          refine float_any ?_
          repeat (first
            | go_big_quiet_step (first
              | (go_at_call 9; with_reducible exact quiet_eq (HM8.out _))
              | (go_at_call 9; with_reducible exact quiet_eq (HM5.out _))))
          refine wpQuiet_nil ?_
          rfl
      refine wpTree_two ?_
      try simp only [pick, List.map_cons, List.map_nil, List.getD_cons_zero, List.getD_cons_succ]
      repeat (first
        | go_big_quiet_step (first
          | (go_at_call 9; with_reducible exact quiet_eq (HM8.out _))
          | (go_at_call 9; with_reducible exact quiet_eq (HM5.out _))))
      refine wpQuiet_nil ?_
      refine ⟨?_, ?_⟩
      · skip
        intro n2
        try simp only [pick, List.map_cons, List.map_nil, List.getD_cons_zero, List.getD_cons_succ]
        go_wp2_with (go_at_call 53; (with_reducible refine (HRU.out _ (CX.drewN n2) _).mono ?_); rintro e r2 ⟨⟨A1, c1, L1, rfl, OW, HL1, HK1, HN1⟩, Dn2⟩; clear HN1)
        have hc0 := CX.size
        replace HK1 := hid HK1
        have hr0 := BR.lt
        have hA1 : ∀ b ∈ blkOf A1, w.heap.size + 2 ≤ b := fun b hb => by have h1 : p1.heap.size ≤ b := (OW.blks b hb).1; omega
        replace OW := OW.base (B' := w.heap.size) hc0
        have En2 := ((Ch.refl [] p1).drewN n2).trans Dn2
        replace BP := BP.ch En2 (by simp)
        replace BR := BR.ch En2 (by simp)
        replace CX := CX.trans En2
        clear En2 e2 e4 e5
        have e2 : r2.cell? ⟨w.heap.size, 2, none⟩ = some (.slice tA n tc) := BP.cell 2
        have e4 : r2.cell? ⟨w.heap.size, 4, none⟩ = some (.int .u64 tw) := BP.cell 4
        have e5 : r2.cell? ⟨w.heap.size, 5, none⟩ = some (.int .i64 tm) := BP.cell 5
        refine stagePost_mk ?_ ?_
        · intro o ho
          simp only [pick, List.map_cons, List.map_nil, List.getD_cons_zero, List.getD_cons_succ, List.mem_cons, List.not_mem_nil, or_false] at ho
          rcases ho with rfl | rfl | rfl | rfl | rfl | rfl
          all_goals
            refine float_any ?_
            repeat (first
              | go_big_quiet_step (first
                | (go_at_call 9; with_reducible exact quiet_eq (HM8.out _))
                | (go_at_call 9; with_reducible exact quiet_eq (HM5.out _))))
            refine wpQuiet_nil ?_
            rfl
        refine wpTree_one ?_
        try simp only [pick, List.map_cons, List.map_nil, List.getD_cons_zero, List.getD_cons_succ]
        repeat (first
          | go_big_quiet_step (first
            | (go_at_call 9; with_reducible exact quiet_eq (HM8.out _))
            | (go_at_call 9; with_reducible exact quiet_eq (HM5.out _))))
        refine wpQuiet_nil ?_
        intro n3
        try simp only [pick, List.map_cons, List.map_nil, List.getD_cons_zero, List.getD_cons_succ]
        go_wp2_with fail
        have BQ : Blk ((r2.drewN n3).alloc (.cells #[.string ⟨#[]⟩, .string ⟨#[]⟩, .slice none 0 0, .int .i64 0, .int .u64 0, .int .i64 0] 47)) r2.heap.size 47 (tnC tn0) := Blk.newAt _ _ (tnC tn0) rfl
        have Dn3 : Ch [] (r2.drewN n3) ((r2.drewN n3).alloc (.cells #[.string ⟨#[]⟩, .string ⟨#[]⟩, .slice none 0 0, .int .i64 0, .int .u64 0, .int .i64 0] 47)) := (Ch.refl _ _).alloc _
        have gq0 := BP.lt
        have gq1 := BR.lt
        have hgA : r2.heap.size ∉ blkOf A1 := fun h => by have := (OW.blks _ h).2; omega
        have En3 := ((Ch.refl [] r2).drewN n3).trans Dn3
        replace BP := BP.ch En3 (by simp)
        replace BR := BR.ch En3 (by simp)
        replace OW := OW.ch En3 (by simp)
        replace CX := CX.trans En3
        clear En3 e2 e4 e5
        have e2 : ((r2.drewN n3).alloc (.cells #[.string ⟨#[]⟩, .string ⟨#[]⟩, .slice none 0 0, .int .i64 0, .int .u64 0, .int .i64 0] 47)).cell? ⟨w.heap.size, 2, none⟩ = some (.slice tA n tc) := BP.cell 2
        have e4 : ((r2.drewN n3).alloc (.cells #[.string ⟨#[]⟩, .string ⟨#[]⟩, .slice none 0 0, .int .i64 0, .int .u64 0, .int .i64 0] 47)).cell? ⟨w.heap.size, 4, none⟩ = some (.int .u64 tw) := BP.cell 4
        have e5 : ((r2.drewN n3).alloc (.cells #[.string ⟨#[]⟩, .string ⟨#[]⟩, .slice none 0 0, .int .i64 0, .int .u64 0, .int .i64 0] 47)).cell? ⟨w.heap.size, 5, none⟩ = some (.int .i64 tm) := BP.cell 5
        generalize r2.heap.size = gq at BQ gq0 gq1 hgA ⊢
        generalize ((r2.drewN n3).alloc (.cells #[.string ⟨#[]⟩, .string ⟨#[]⟩, .slice none 0 0, .int .i64 0, .int .u64 0, .int .i64 0] 47)) = a3 at BP BR BQ CX e2 e4 e5 OW Dn3 ⊢
        clear Dn3
        refine stagePost_mk ?_ ?_
        · intro o ho
          simp only [pick, List.map_cons, List.map_nil, List.getD_cons_zero, List.getD_cons_succ, List.mem_cons, List.not_mem_nil, or_false] at ho
          rcases ho with rfl | rfl | rfl | rfl | rfl | rfl | rfl | rfl | rfl | rfl | rfl | rfl | rfl | rfl | rfl | rfl | rfl
          all_goals
            refine float_any ?_
            repeat (first
              | go_big_quiet_step (first
                | (go_at_call 9; with_reducible exact quiet_eq (HM8.out _))
                | (go_at_call 9; with_reducible exact quiet_eq (HM5.out _))))
            refine wpQuiet_nil ?_
            rfl
        refine wpTree_one ?_
        try simp only [pick, List.map_nil]
        repeat (first
          | go_big_quiet_step (first
            | (go_at_call 9; with_reducible exact quiet_eq (HM8.out _))
            | (go_at_call 9; with_reducible exact quiet_eq (HM5.out _))))
        refine wpQuiet_nil ?_
        intro n4
        try simp only [pick, List.map_cons, List.map_nil, List.getD_cons_zero, List.getD_cons_succ]
        have BQ' := BQ.drewN n4
        go_wp2_with (refine wpList_storeB rfl 47 _ _ rfl gq 47 (tnC tn0) (tnC ⟨us, ps, A1, c1, L1, 30, 1 + tw % 60, 1 + k5⟩) rfl rfl BQ' HI6.out rfl (tn_one _) ?_; intro s4 BS Dn4 Z; clear Z)
        have En4 := ((Ch.refl [gq] a3).drewN n4).trans Dn4
        replace BP := BP.ch En4 (by simp; omega)
        replace BR := BR.ch En4 (by simp; omega)
        replace OW := OW.ch En4 (fun b hb h => by rw [List.mem_singleton] at h; subst h; exact hgA hb)
        replace CX := CX.step En4 (fun i hi => .inr (by simp at hi; omega))
        clear e2 e4 e5 BQ BQ'
        have e3 : s4.cell? ⟨w.heap.size, 3, none⟩ = some (.int .i64 tb) := BP.cell 3
        refine stagePost_mk (by simp [pick]) ?_
        refine wpTree_last ?_
        try simp only [pick, List.map_nil]
        repeat (first
          | go_big_quiet_step (first
            | (go_at_call 9; with_reducible exact quiet_eq (HM8.out _))
            | (go_at_call 9; with_reducible exact quiet_eq (HM5.out _))))
        refine wpQuiet_nil ?_
        intro n5
        have BP' := BP.drewN n5
        have BS' := BS.drewN n5
        have BR' := BR.drewN n5
        have OW' := OW.drewN n5
        have CX' := CX.drewN n5
        clear e3
        have e3 : (s4.drewN n5).cell? ⟨w.heap.size, 3, none⟩ = some (.int .i64 tb) := BP'.cell 3
        have f3 := BS'.cell 3
        have g3 := BS'.frozen 3
        cases hk : (k3 == 0)
        · go_wp2_with (first
            | go_big_skip
            | (go_at_call 9; (with_reducible refine (HM3.out _).mono ?_); rintro e w9 ⟨rfl, rfl⟩)
            | (refine wpList_load_want rfl 47 _ rfl gq 0 rfl (tnC ⟨us, ps, A1, c1, L1, 30, 1 + tw % 60, 1 + k5⟩) _ BS'.range Tryd.underlying47 rfl HI6.out ?_)
            | (refine wpList_storeB rfl 47 _ _ rfl (w.heap.size + 1) 47 (tnC tn0) (tnC ⟨us, ps, A1, c1, L1, 30, 1 + tw % 60, 1 + k5⟩) rfl rfl BR' HI6.out rfl (tn_one _) ?_; intro wz BZ DZ ZZ))
          try simp only [Exit.inBlock, Exit.then]
          refine bodyPost_ret (results_row1 rfl _ _ rfl BZ Tryd.underlying47 rfl HI6.out) rfl ?_
          exact ⟨⟨_, rfl, ⟨HUQ.out.symm, HPQ.out.symm, HK1.out, HL1, by show (0 : Int) ≤ 30; omega, by show (30 : Int) ≤ 30; omega, by show 1 ≤ 1 + tw % 60; omega, by show 1 + tw % 60 ≤ 60; omega, by show 1 ≤ 1 + k5; omega, by show 1 + k5 ≤ 5; omega⟩, OW'.ch DZ (fun b hb h => by rw [List.mem_singleton] at h; have := hA1 b hb; omega), hA1⟩, CX'.step DZ (fun i hi => .inr (by simp at hi; omega))⟩
        · go_upto_region 4 with (first
            | go_big_skip
            | (go_at_call 9; (with_reducible refine (HM3.out _).mono ?_); rintro e w9 ⟨rfl, rfl⟩)
            | (go_at_call 9; (with_reducible refine (HB5.out _).mono ?_); rintro e w9 ⟨rfl, rfl⟩))
          have BS2 : Blk ((s4.drewN n5).setCell ⟨gq, 3, none⟩ (.int .i64 b5)) gq 47 (tnC ⟨us, ps, A1, c1, L1, b5, 1 + tw % 60, 1 + k5⟩) := BS'.set 3 (.int .i64 b5)
          have D7 : Ch [gq] (s4.drewN n5) ((s4.drewN n5).setCell ⟨gq, 3, none⟩ (.int .i64 b5)) := (Ch.refl [gq] _).setCell (p := ⟨gq, 3, none⟩) (.inl (by simp)) _
          have BR2 := BR'.ch D7 (by simp; omega)
          have OW2 := OW'.ch D7 (fun b hb h => by rw [List.mem_singleton] at h; subst h; exact hgA hb)
          have CX2 := CX'.step D7 (fun i hi => .inr (by simp at hi; omega))
          generalize (s4.drewN n5).setCell ⟨gq, 3, none⟩ (.int .i64 b5) = wy at BS2 BR2 OW2 CX2 ⊢
          clear f3 g3 e3 D7
          go_wp2_with (first
            | go_big_skip
            | (refine wpList_load_want rfl 47 _ rfl gq 0 rfl (tnC ⟨us, ps, A1, c1, L1, b5, 1 + tw % 60, 1 + k5⟩) _ BS2.range Tryd.underlying47 rfl HI6.out ?_)
            | (refine wpList_storeB rfl 47 _ _ rfl (w.heap.size + 1) 47 (tnC tn0) (tnC ⟨us, ps, A1, c1, L1, b5, 1 + tw % 60, 1 + k5⟩) rfl rfl BR2 HI6.out rfl (tn_one _) ?_; intro wz BZ DZ ZZ))
          try simp only [Exit.inBlock, Exit.then]
          refine bodyPost_ret (results_row1 rfl _ _ rfl BZ Tryd.underlying47 rfl HI6.out) rfl ?_
          exact ⟨⟨_, rfl, ⟨HUQ.out.symm, HPQ.out.symm, HK1.out, HL1, by show (0 : Int) ≤ b5; omega, by show b5 ≤ 30; omega, by show 1 ≤ 1 + tw % 60; omega, by show 1 + tw % 60 ≤ 60; omega, by show 1 ≤ 1 + k5; omega, by show 1 + k5 ≤ 5; omega⟩, OW2.ch DZ (fun b hb h => by rw [List.mem_singleton] at h; have := hA1 b hb; omega), hA1⟩, CX2.step DZ (fun i hi => .inr (by simp at hi; omega))⟩
      · skip
        intro n2
        try simp only [pick, List.map_cons, List.map_nil, List.getD_cons_zero, List.getD_cons_succ]
        go_wp2_with fail
        have BQ : Blk ((p1.drewN n2).alloc (.cells #[.string ⟨#[]⟩, .string ⟨#[]⟩, .slice none 0 0, .int .i64 0, .int .u64 0, .int .i64 0] 47)) p1.heap.size 47 (tnC tn0) := Blk.newAt _ _ (tnC tn0) rfl
        have Dn2 : Ch [] (p1.drewN n2) ((p1.drewN n2).alloc (.cells #[.string ⟨#[]⟩, .string ⟨#[]⟩, .slice none 0 0, .int .i64 0, .int .u64 0, .int .i64 0] 47)) := (Ch.refl _ _).alloc _
        have gq0 := BP.lt
        have gq1 := BR.lt
        have En2 := ((Ch.refl [] p1).drewN n2).trans Dn2
        replace BP := BP.ch En2 (by simp)
        replace BR := BR.ch En2 (by simp)
        replace CX := CX.trans En2
        clear En2 e2 e4 e5
        have e2 : ((p1.drewN n2).alloc (.cells #[.string ⟨#[]⟩, .string ⟨#[]⟩, .slice none 0 0, .int .i64 0, .int .u64 0, .int .i64 0] 47)).cell? ⟨w.heap.size, 2, none⟩ = some (.slice tA n tc) := BP.cell 2
        have e4 : ((p1.drewN n2).alloc (.cells #[.string ⟨#[]⟩, .string ⟨#[]⟩, .slice none 0 0, .int .i64 0, .int .u64 0, .int .i64 0] 47)).cell? ⟨w.heap.size, 4, none⟩ = some (.int .u64 tw) := BP.cell 4
        have e5 : ((p1.drewN n2).alloc (.cells #[.string ⟨#[]⟩, .string ⟨#[]⟩, .slice none 0 0, .int .i64 0, .int .u64 0, .int .i64 0] 47)).cell? ⟨w.heap.size, 5, none⟩ = some (.int .i64 tm) := BP.cell 5
        generalize p1.heap.size = gq at BQ gq0 gq1 ⊢
        generalize ((p1.drewN n2).alloc (.cells #[.string ⟨#[]⟩, .string ⟨#[]⟩, .slice none 0 0, .int .i64 0, .int .u64 0, .int .i64 0] 47)) = a2 at BP BR BQ CX e2 e4 e5 Dn2 ⊢
        clear Dn2
        refine stagePost_mk ?_ ?_
        · intro o ho
          simp only [pick, List.map_cons, List.map_nil, List.getD_cons_zero, List.getD_cons_succ, List.mem_cons, List.not_mem_nil, or_false] at ho
          rcases ho with rfl | rfl | rfl | rfl | rfl | rfl | rfl | rfl | rfl | rfl | rfl | rfl | rfl | rfl
          all_goals
            refine float_any ?_
            repeat (first
              | go_big_quiet_step (first
                | (go_at_call 9; with_reducible exact quiet_eq (HM8.out _))
                | (go_at_call 9; with_reducible exact quiet_eq (HM5.out _))))
            refine wpQuiet_nil ?_
            rfl
        refine wpTree_one ?_
        try simp only [pick, List.map_nil]
        repeat (first
          | go_big_quiet_step (first
            | (go_at_call 9; with_reducible exact quiet_eq (HM8.out _))
            | (go_at_call 9; with_reducible exact quiet_eq (HM5.out _))))
        refine wpQuiet_nil ?_
        intro n6
        try simp only [pick, List.map_cons, List.map_nil, List.getD_cons_zero, List.getD_cons_succ]
        go_wp2_with (go_at_call 53; (with_reducible refine (HRU.out _ (CX.drewN n6) _).mono ?_); rintro e r6 ⟨⟨A1, c1, L1, rfl, OW, HL1, HK1, HN1⟩, Dn6⟩; clear HN1)
        have hc0 := CX.size
        replace HK1 := hid HK1
        have hr0 := BR.lt
        have hA1 : ∀ b ∈ blkOf A1, w.heap.size + 2 ≤ b := fun b hb => by have h1 : a2.heap.size ≤ b := (OW.blks b hb).1; omega
        have hq0 := BQ.lt
        have hgA : gq ∉ blkOf A1 := fun h => by have h1 : a2.heap.size ≤ gq := (OW.blks _ h).1; omega
        replace OW := OW.base (B' := w.heap.size) hc0
        have En6 := ((Ch.refl [] a2).drewN n6).trans Dn6
        replace BP := BP.ch En6 (by simp)
        replace BR := BR.ch En6 (by simp)
        replace BQ := BQ.ch En6 (by simp)
        replace CX := CX.trans En6
        clear En6 e2 e4 e5
        have e2 : r6.cell? ⟨w.heap.size, 2, none⟩ = some (.slice tA n tc) := BP.cell 2
        have e4 : r6.cell? ⟨w.heap.size, 4, none⟩ = some (.int .u64 tw) := BP.cell 4
        have e5 : r6.cell? ⟨w.heap.size, 5, none⟩ = some (.int .i64 tm) := BP.cell 5
        refine stagePost_mk ?_ ?_
        · intro o ho
          simp only [pick, List.map_cons, List.map_nil, List.getD_cons_zero, List.getD_cons_succ, List.mem_cons, List.not_mem_nil, or_false] at ho
          rcases ho with rfl | rfl | rfl | rfl | rfl | rfl
          all_goals
            refine float_any ?_
            repeat (first
              | go_big_quiet_step (first
                | (go_at_call 9; with_reducible exact quiet_eq (HM8.out _))
                | (go_at_call 9; with_reducible exact quiet_eq (HM5.out _))))
            refine wpQuiet_nil ?_
            rfl
        refine wpTree_one ?_
        try simp only [pick, List.map_cons, List.map_nil, List.getD_cons_zero, List.getD_cons_succ]
        repeat (first
          | go_big_quiet_step (first
            | (go_at_call 9; with_reducible exact quiet_eq (HM8.out _))
            | (go_at_call 9; with_reducible exact quiet_eq (HM5.out _))))
        refine wpQuiet_nil ?_
        intro n7
        try simp only [pick, List.map_cons, List.map_nil, List.getD_cons_zero, List.getD_cons_succ]
        have BQ' := BQ.drewN n7
        go_wp2_with (refine wpList_storeB rfl 47 _ _ rfl gq 47 (tnC tn0) (tnC ⟨us, ps, A1, c1, L1, 30, 1 + tw % 60, 1 + k5⟩) rfl rfl BQ' HI6.out rfl (tn_one _) ?_; intro s7 BS Dn7 Z; clear Z)
        have En7 := ((Ch.refl [gq] r6).drewN n7).trans Dn7
        replace BP := BP.ch En7 (by simp; omega)
        replace BR := BR.ch En7 (by simp; omega)
        replace OW := OW.ch En7 (fun b hb h => by rw [List.mem_singleton] at h; subst h; exact hgA hb)
        replace CX := CX.step En7 (fun i hi => .inr (by simp at hi; omega))
        clear e2 e4 e5 BQ BQ'
        have e3 : s7.cell? ⟨w.heap.size, 3, none⟩ = some (.int .i64 tb) := BP.cell 3
        refine stagePost_mk (by simp [pick]) ?_
        refine wpTree_last ?_
        try simp only [pick, List.map_nil]
        repeat (first
          | go_big_quiet_step (first
            | (go_at_call 9; with_reducible exact quiet_eq (HM8.out _))
            | (go_at_call 9; with_reducible exact quiet_eq (HM5.out _))))
        refine wpQuiet_nil ?_
        intro n8
        have BP' := BP.drewN n8
        have BS' := BS.drewN n8
        have BR' := BR.drewN n8
        have OW' := OW.drewN n8
        have CX' := CX.drewN n8
        clear e3
        have e3 : (s7.drewN n8).cell? ⟨w.heap.size, 3, none⟩ = some (.int .i64 tb) := BP'.cell 3
        have f3 := BS'.cell 3
        have g3 := BS'.frozen 3
        cases hk : (k3 == 0)
        · go_wp2_with (first
            | go_big_skip
            | (go_at_call 9; (with_reducible refine (HM3.out _).mono ?_); rintro e w9 ⟨rfl, rfl⟩)
            | (refine wpList_load_want rfl 47 _ rfl gq 0 rfl (tnC ⟨us, ps, A1, c1, L1, 30, 1 + tw % 60, 1 + k5⟩) _ BS'.range Tryd.underlying47 rfl HI6.out ?_)
            | (refine wpList_storeB rfl 47 _ _ rfl (w.heap.size + 1) 47 (tnC tn0) (tnC ⟨us, ps, A1, c1, L1, 30, 1 + tw % 60, 1 + k5⟩) rfl rfl BR' HI6.out rfl (tn_one _) ?_; intro wz BZ DZ ZZ))
          try simp only [Exit.inBlock, Exit.then]
          refine bodyPost_ret (results_row1 rfl _ _ rfl BZ Tryd.underlying47 rfl HI6.out) rfl ?_
          exact ⟨⟨_, rfl, ⟨HUQ.out.symm, HPQ.out.symm, HK1.out, HL1, by show (0 : Int) ≤ 30; omega, by show (30 : Int) ≤ 30; omega, by show 1 ≤ 1 + tw % 60; omega, by show 1 + tw % 60 ≤ 60; omega, by show 1 ≤ 1 + k5; omega, by show 1 + k5 ≤ 5; omega⟩, OW'.ch DZ (fun b hb h => by rw [List.mem_singleton] at h; have := hA1 b hb; omega), hA1⟩, CX'.step DZ (fun i hi => .inr (by simp at hi; omega))⟩
        · go_upto_region 4 with (first
            | go_big_skip
            | (go_at_call 9; (with_reducible refine (HM3.out _).mono ?_); rintro e w9 ⟨rfl, rfl⟩)
            | (go_at_call 9; (with_reducible refine (HB5.out _).mono ?_); rintro e w9 ⟨rfl, rfl⟩))
          have BS2 : Blk ((s7.drewN n8).setCell ⟨gq, 3, none⟩ (.int .i64 b5)) gq 47 (tnC ⟨us, ps, A1, c1, L1, b5, 1 + tw % 60, 1 + k5⟩) := BS'.set 3 (.int .i64 b5)
          have D7 : Ch [gq] (s7.drewN n8) ((s7.drewN n8).setCell ⟨gq, 3, none⟩ (.int .i64 b5)) := (Ch.refl [gq] _).setCell (p := ⟨gq, 3, none⟩) (.inl (by simp)) _
          have BR2 := BR'.ch D7 (by simp; omega)
          have OW2 := OW'.ch D7 (fun b hb h => by rw [List.mem_singleton] at h; subst h; exact hgA hb)
          have CX2 := CX'.step D7 (fun i hi => .inr (by simp at hi; omega))
          generalize (s7.drewN n8).setCell ⟨gq, 3, none⟩ (.int .i64 b5) = wy at BS2 BR2 OW2 CX2 ⊢
          clear f3 g3 e3 D7
          go_wp2_with (first
            | go_big_skip
            | (refine wpList_load_want rfl 47 _ rfl gq 0 rfl (tnC ⟨us, ps, A1, c1, L1, b5, 1 + tw % 60, 1 + k5⟩) _ BS2.range Tryd.underlying47 rfl HI6.out ?_)
            | (refine wpList_storeB rfl 47 _ _ rfl (w.heap.size + 1) 47 (tnC tn0) (tnC ⟨us, ps, A1, c1, L1, b5, 1 + tw % 60, 1 + k5⟩) rfl rfl BR2 HI6.out rfl (tn_one _) ?_; intro wz BZ DZ ZZ))
          try simp only [Exit.inBlock, Exit.then]
          refine bodyPost_ret (results_row1 rfl _ _ rfl BZ Tryd.underlying47 rfl HI6.out) rfl ?_
          exact ⟨⟨_, rfl, ⟨HUQ.out.symm, HPQ.out.symm, HK1.out, HL1, by show (0 : Int) ≤ b5; omega, by show b5 ≤ 30; omega, by show 1 ≤ 1 + tw % 60; omega, by show 1 + tw % 60 ≤ 60; omega, by show 1 ≤ 1 + k5; omega, by show 1 + k5 ≤ 5; omega⟩, OW2.ch DZ (fun b hb h => by rw [List.mem_singleton] at h; have := hA1 b hb; omega), hA1⟩, CX2.step DZ (fun i hi => .inr (by simp at hi; omega))⟩
    · skip
      intro n1
      try simp only [pick, List.map_cons, List.map_nil, List.getD_cons_zero, List.getD_cons_succ]
      go_wp2_with fail
      have BQ : Blk ((b0.drewN n1).alloc (.cells #[.string ⟨#[]⟩, .string ⟨#[]⟩, .slice none 0 0, .int .i64 0, .int .u64 0, .int .i64 0] 47)) b0.heap.size 47 (tnC tn0) := Blk.newAt _ _ (tnC tn0) rfl
      have Dn1 : Ch [] (b0.drewN n1) ((b0.drewN n1).alloc (.cells #[.string ⟨#[]⟩, .string ⟨#[]⟩, .slice none 0 0, .int .i64 0, .int .u64 0, .int .i64 0] 47)) := (Ch.refl _ _).alloc _
      have gq0 := BP.lt
      have gq1 := BR.lt
      have En1 := ((Ch.refl [] b0).drewN n1).trans Dn1
      replace BP := BP.ch En1 (by simp)
      replace BR := BR.ch En1 (by simp)
      replace CX := CX.trans En1
      clear En1 e2 e4 e5
      have e2 : ((b0.drewN n1).alloc (.cells #[.string ⟨#[]⟩, .string ⟨#[]⟩, .slice none 0 0, .int .i64 0, .int .u64 0, .int .i64 0] 47)).cell? ⟨w.heap.size, 2, none⟩ = some (.slice tA n tc) := BP.cell 2
      have e4 : ((b0.drewN n1).alloc (.cells #[.string ⟨#[]⟩, .string ⟨#[]⟩, .slice none 0 0, .int .i64 0, .int .u64 0, .int .i64 0] 47)).cell? ⟨w.heap.size, 4, none⟩ = some (.int .u64 tw) := BP.cell 4
      have e5 : ((b0.drewN n1).alloc (.cells #[.string ⟨#[]⟩, .string ⟨#[]⟩, .slice none 0 0, .int .i64 0, .int .u64 0, .int .i64 0] 47)).cell? ⟨w.heap.size, 5, none⟩ = some (.int .i64 tm) := BP.cell 5
      generalize b0.heap.size = gq at BQ gq0 gq1 ⊢
      generalize ((b0.drewN n1).alloc (.cells #[.string ⟨#[]⟩, .string ⟨#[]⟩, .slice none 0 0, .int .i64 0, .int .u64 0, .int .i64 0] 47)) = a1 at BP BR BQ CX e2 e4 e5 Dn1 ⊢
      clear Dn1
      refine stagePost_mk ?_ ?_
      · intro o ho
        simp only [pick, List.map_cons, List.map_nil, List.getD_cons_zero, List.getD_cons_succ, List.mem_cons, List.not_mem_nil, or_false] at ho
        rcases ho with rfl | rfl | rfl | rfl | rfl | rfl | rfl | rfl | rfl | rfl | rfl | rfl
        all_goals
          refine float_any ?_
          repeat (first
            | go_big_quiet_step (first
              | (go_at_call 9; with_reducible exact quiet_eq (HM8.out _))
              | (go_at_call 9; with_reducible exact quiet_eq (HM5.out _))))
          refine wpQuiet_nil ?_
          rfl
      refine wpTree_one ?_
      try simp only [pick, List.map_nil]
      repeat (first
        | go_big_quiet_step (first
          | (go_at_call 9; with_reducible exact quiet_eq (HM8.out _))
          | (go_at_call 9; with_reducible exact quiet_eq (HM5.out _))))
      refine wpQuiet_nil ?_
      intro n9
      try simp only [pick, List.map_cons, List.map_nil, List.getD_cons_zero, List.getD_cons_succ]
      go_wp2_with (go_at_call 15; (with_reducible refine (HPS.out _).mono ?_); rintro e p9 ⟨rfl, Dn9⟩)
      have En9 := ((Ch.refl [] a1).drewN n9).trans Dn9
      replace BP := BP.ch En9 (by simp)
      replace BR := BR.ch En9 (by simp)
      replace BQ := BQ.ch En9 (by simp)
      replace CX := CX.trans En9
      clear En9 e2 e4 e5
      have e2 : p9.cell? ⟨w.heap.size, 2, none⟩ = some (.slice tA n tc) := BP.cell 2
      have e4 : p9.cell? ⟨w.heap.size, 4, none⟩ = some (.int .u64 tw) := BP.cell 4
      have e5 : p9.cell? ⟨w.heap.size, 5, none⟩ = some (.int .i64 tm) := BP.cell 5
      refine stagePost_mk ?_ ?_
      · intro o ho
        simp only [pick, List.map_cons, List.map_nil, List.getD_cons_zero, List.getD_cons_succ, List.mem_cons, List.not_mem_nil, or_false] at ho
        rcases ho with rfl | rfl | rfl | rfl | rfl | rfl | rfl | rfl | rfl | rfl
        all_goals
          refine float_any ?_
          repeat (first
            | go_big_quiet_step (first
              | (go_at_call 9; with_reducible exact quiet_eq (HM8.out _))
              | (go_at_call 9; with_reducible exact quiet_eq (HM5.out _))))
          refine wpQuiet_nil ?_
          rfl
      refine wpTree_one ?_
      try simp only [pick, List.map_cons, List.map_nil, List.getD_cons_zero, List.getD_cons_succ]
      repeat (first
        | go_big_quiet_step (first
          | (go_at_call 9; with_reducible exact quiet_eq (HM8.out _))
          | (go_at_call 9; with_reducible exact quiet_eq (HM5.out _))))
      refine wpQuiet_nil ?_
      intro n10
      try simp only [pick, List.map_cons, List.map_nil, List.getD_cons_zero, List.getD_cons_succ]
      go_wp2_with (go_at_call 53; (with_reducible refine (HRU.out _ (CX.drewN n10) _).mono ?_); rintro e r10 ⟨⟨A1, c1, L1, rfl, OW, HL1, HK1, HN1⟩, Dn10⟩; clear HN1)
      have hc0 := CX.size
      replace HK1 := hid HK1
      have hr0 := BR.lt
      have hA1 : ∀ b ∈ blkOf A1, w.heap.size + 2 ≤ b := fun b hb => by have h1 : p9.heap.size ≤ b := (OW.blks b hb).1; omega
      have hq0 := BQ.lt
      have hgA : gq ∉ blkOf A1 := fun h => by have h1 : p9.heap.size ≤ gq := (OW.blks _ h).1; omega
      replace OW := OW.base (B' := w.heap.size) hc0
      have En10 := ((Ch.refl [] p9).drewN n10).trans Dn10
      replace BP := BP.ch En10 (by simp)
      replace BR := BR.ch En10 (by simp)
      replace BQ := BQ.ch En10 (by simp)
      replace CX := CX.trans En10
      clear En10 e2 e4 e5
      have e2 : r10.cell? ⟨w.heap.size, 2, none⟩ = some (.slice tA n tc) := BP.cell 2
      have e4 : r10.cell? ⟨w.heap.size, 4, none⟩ = some (.int .u64 tw) := BP.cell 4
      have e5 : r10.cell? ⟨w.heap.size, 5, none⟩ = some (.int .i64 tm) := BP.cell 5
      refine stagePost_mk ?_ ?_
      · intro o ho
        simp only [pick, List.map_cons, List.map_nil, List.getD_cons_zero, List.getD_cons_succ, List.mem_cons, List.not_mem_nil, or_false] at ho
        rcases ho with rfl | rfl | rfl | rfl | rfl | rfl
        all_goals
          refine float_any ?_
          repeat (first
            | go_big_quiet_step (first
              | (go_at_call 9; with_reducible exact quiet_eq (HM8.out _))
              | (go_at_call 9; with_reducible exact quiet_eq (HM5.out _))))
          refine wpQuiet_nil ?_
          rfl
      refine wpTree_one ?_
      try simp only [pick, List.map_cons, List.map_nil, List.getD_cons_zero, List.getD_cons_succ]
      repeat (first
        | go_big_quiet_step (first
          | (go_at_call 9; with_reducible exact quiet_eq (HM8.out _))
          | (go_at_call 9; with_reducible exact quiet_eq (HM5.out _))))
      refine wpQuiet_nil ?_
      intro n11
      try simp only [pick, List.map_cons, List.map_nil, List.getD_cons_zero, List.getD_cons_succ]
      have BQ' := BQ.drewN n11
      go_wp2_with (refine wpList_storeB rfl 47 _ _ rfl gq 47 (tnC tn0) (tnC ⟨us, ps, A1, c1, L1, 30, 1 + tw % 60, 1 + k5⟩) rfl rfl BQ' HI6.out rfl (tn_one _) ?_; intro s11 BS Dn11 Z; clear Z)
      have En11 := ((Ch.refl [gq] r10).drewN n11).trans Dn11
      replace BP := BP.ch En11 (by simp; omega)
      replace BR := BR.ch En11 (by simp; omega)
      replace OW := OW.ch En11 (fun b hb h => by rw [List.mem_singleton] at h; subst h; exact hgA hb)
      replace CX := CX.step En11 (fun i hi => .inr (by simp at hi; omega))
      clear e2 e4 e5 BQ BQ'
      have e3 : s11.cell? ⟨w.heap.size, 3, none⟩ = some (.int .i64 tb) := BP.cell 3
      refine stagePost_mk (by simp [pick]) ?_
      refine wpTree_last ?_
      try simp only [pick, List.map_nil]
      repeat (first
        | go_big_quiet_step (first
          | (go_at_call 9; with_reducible exact quiet_eq (HM8.out _))
          | (go_at_call 9; with_reducible exact quiet_eq (HM5.out _))))
      refine wpQuiet_nil ?_
      intro n12
      have BP' := BP.drewN n12
      have BS' := BS.drewN n12
      have BR' := BR.drewN n12
      have OW' := OW.drewN n12
      have CX' := CX.drewN n12
      clear e3
      have e3 : (s11.drewN n12).cell? ⟨w.heap.size, 3, none⟩ = some (.int .i64 tb) := BP'.cell 3
      have f3 := BS'.cell 3
      have g3 := BS'.frozen 3
      cases hk : (k3 == 0)
      · go_wp2_with (first
          | go_big_skip
          | (go_at_call 9; (with_reducible refine (HM3.out _).mono ?_); rintro e w9 ⟨rfl, rfl⟩)
          | (refine wpList_load_want rfl 47 _ rfl gq 0 rfl (tnC ⟨us, ps, A1, c1, L1, 30, 1 + tw % 60, 1 + k5⟩) _ BS'.range Tryd.underlying47 rfl HI6.out ?_)
          | (refine wpList_storeB rfl 47 _ _ rfl (w.heap.size + 1) 47 (tnC tn0) (tnC ⟨us, ps, A1, c1, L1, 30, 1 + tw % 60, 1 + k5⟩) rfl rfl BR' HI6.out rfl (tn_one _) ?_; intro wz BZ DZ ZZ))
        try simp only [Exit.inBlock, Exit.then]
        refine bodyPost_ret (results_row1 rfl _ _ rfl BZ Tryd.underlying47 rfl HI6.out) rfl ?_
        exact ⟨⟨_, rfl, ⟨HUQ.out.symm, HPQ.out.symm, HK1.out, HL1, by show (0 : Int) ≤ 30; omega, by show (30 : Int) ≤ 30; omega, by show 1 ≤ 1 + tw % 60; omega, by show 1 + tw % 60 ≤ 60; omega, by show 1 ≤ 1 + k5; omega, by show 1 + k5 ≤ 5; omega⟩, OW'.ch DZ (fun b hb h => by rw [List.mem_singleton] at h; have := hA1 b hb; omega), hA1⟩, CX'.step DZ (fun i hi => .inr (by simp at hi; omega))⟩
      · go_upto_region 4 with (first
          | go_big_skip
          | (go_at_call 9; (with_reducible refine (HM3.out _).mono ?_); rintro e w9 ⟨rfl, rfl⟩)
          | (go_at_call 9; (with_reducible refine (HB5.out _).mono ?_); rintro e w9 ⟨rfl, rfl⟩))
        have BS2 : Blk ((s11.drewN n12).setCell ⟨gq, 3, none⟩ (.int .i64 b5)) gq 47 (tnC ⟨us, ps, A1, c1, L1, b5, 1 + tw % 60, 1 + k5⟩) := BS'.set 3 (.int .i64 b5)
        have D7 : Ch [gq] (s11.drewN n12) ((s11.drewN n12).setCell ⟨gq, 3, none⟩ (.int .i64 b5)) := (Ch.refl [gq] _).setCell (p := ⟨gq, 3, none⟩) (.inl (by simp)) _
        have BR2 := BR'.ch D7 (by simp; omega)
        have OW2 := OW'.ch D7 (fun b hb h => by rw [List.mem_singleton] at h; subst h; exact hgA hb)
        have CX2 := CX'.step D7 (fun i hi => .inr (by simp at hi; omega))
        generalize (s11.drewN n12).setCell ⟨gq, 3, none⟩ (.int .i64 b5) = wy at BS2 BR2 OW2 CX2 ⊢
        clear f3 g3 e3 D7
        go_wp2_with (first
          | go_big_skip
          | (refine wpList_load_want rfl 47 _ rfl gq 0 rfl (tnC ⟨us, ps, A1, c1, L1, b5, 1 + tw % 60, 1 + k5⟩) _ BS2.range Tryd.underlying47 rfl HI6.out ?_)
          | (refine wpList_storeB rfl 47 _ _ rfl (w.heap.size + 1) 47 (tnC tn0) (tnC ⟨us, ps, A1, c1, L1, b5, 1 + tw % 60, 1 + k5⟩) rfl rfl BR2 HI6.out rfl (tn_one _) ?_; intro wz BZ DZ ZZ))
        try simp only [Exit.inBlock, Exit.then]
        refine bodyPost_ret (results_row1 rfl _ _ rfl BZ Tryd.underlying47 rfl HI6.out) rfl ?_
        exact ⟨⟨_, rfl, ⟨HUQ.out.symm, HPQ.out.symm, HK1.out, HL1, by show (0 : Int) ≤ b5; omega, by show b5 ≤ 30; omega, by show 1 ≤ 1 + tw % 60; omega, by show 1 + tw % 60 ≤ 60; omega, by show 1 ≤ 1 + k5; omega, by show 1 + k5 ≤ 5; omega⟩, OW2.ch DZ (fun b hb h => by rw [List.mem_singleton] at h; have := hA1 b hb; omega), hA1⟩, CX2.step DZ (fun i hi => .inr (by simp at hi; omega))⟩
  · skip
    intro n0
    try simp only [pick, List.map_cons, List.map_nil, List.getD_cons_zero, List.getD_cons_succ]
    go_wp2_with fail
    have BQ : Blk ((w1.drewN n0).alloc (.cells #[.string ⟨#[]⟩, .string ⟨#[]⟩, .slice none 0 0, .int .i64 0, .int .u64 0, .int .i64 0] 47)) w1.heap.size 47 (tnC tn0) := Blk.newAt _ _ (tnC tn0) rfl
    have Dn0 : Ch [] (w1.drewN n0) ((w1.drewN n0).alloc (.cells #[.string ⟨#[]⟩, .string ⟨#[]⟩, .slice none 0 0, .int .i64 0, .int .u64 0, .int .i64 0] 47)) := (Ch.refl _ _).alloc _
    have gq0 := BP.lt
    have gq1 := BR.lt
    have En0 := ((Ch.refl [] w1).drewN n0).trans Dn0
    replace BP := BP.ch En0 (by simp)
    replace BR := BR.ch En0 (by simp)
    replace CX := CX.trans En0
    clear En0 e2 e4 e5
    have e2 : ((w1.drewN n0).alloc (.cells #[.string ⟨#[]⟩, .string ⟨#[]⟩, .slice none 0 0, .int .i64 0, .int .u64 0, .int .i64 0] 47)).cell? ⟨w.heap.size, 2, none⟩ = some (.slice tA n tc) := BP.cell 2
    have e4 : ((w1.drewN n0).alloc (.cells #[.string ⟨#[]⟩, .string ⟨#[]⟩, .slice none 0 0, .int .i64 0, .int .u64 0, .int .i64 0] 47)).cell? ⟨w.heap.size, 4, none⟩ = some (.int .u64 tw) := BP.cell 4
    have e5 : ((w1.drewN n0).alloc (.cells #[.string ⟨#[]⟩, .string ⟨#[]⟩, .slice none 0 0, .int .i64 0, .int .u64 0, .int .i64 0] 47)).cell? ⟨w.heap.size, 5, none⟩ = some (.int .i64 tm) := BP.cell 5
    generalize w1.heap.size = gq at BQ gq0 gq1 ⊢
    generalize ((w1.drewN n0).alloc (.cells #[.string ⟨#[]⟩, .string ⟨#[]⟩, .slice none 0 0, .int .i64 0, .int .u64 0, .int .i64 0] 47)) = a0 at BP BR BQ CX e2 e4 e5 Dn0 ⊢
    clear Dn0
    refine stagePost_mk ?_ ?_
    · intro o ho
      simp only [pick, List.map_cons, List.map_nil, List.getD_cons_zero, List.getD_cons_succ, List.mem_cons, List.not_mem_nil, or_false] at ho
      rcases ho with rfl | rfl | rfl | rfl | rfl | rfl | rfl | rfl | rfl | rfl | rfl | rfl
      all_goals
        refine float_any ?_
        repeat (first
          | go_big_quiet_step (first
            | (go_at_call 9; with_reducible exact quiet_eq (HM8.out _))
            | (go_at_call 9; with_reducible exact quiet_eq (HM5.out _))))
        refine wpQuiet_nil ?_
        rfl
    refine wpTree_one ?_
    try simp only [pick, List.map_nil]
    repeat (first
      | go_big_quiet_step (first
        | (go_at_call 9; with_reducible exact quiet_eq (HM8.out _))
        | (go_at_call 9; with_reducible exact quiet_eq (HM5.out _))))
    refine wpQuiet_nil ?_
    intro n13
    try simp only [pick, List.map_cons, List.map_nil, List.getD_cons_zero, List.getD_cons_succ]
    go_wp2_with (go_at_call 14; (with_reducible refine (HUS.out _).mono ?_); rintro e b13 ⟨rfl, Dn13⟩)
    have En13 := ((Ch.refl [] a0).drewN n13).trans Dn13
    replace BP := BP.ch En13 (by simp)
    replace BR := BR.ch En13 (by simp)
    replace BQ := BQ.ch En13 (by simp)
    replace CX := CX.trans En13
    clear En13 e2 e4 e5
    have e2 : b13.cell? ⟨w.heap.size, 2, none⟩ = some (.slice tA n tc) := BP.cell 2
    have e4 : b13.cell? ⟨w.heap.size, 4, none⟩ = some (.int .u64 tw) := BP.cell 4
    have e5 : b13.cell? ⟨w.heap.size, 5, none⟩ = some (.int .i64 tm) := BP.cell 5
    refine stagePost_mk ?_ ?_
    · intro o ho
      simp only [pick, List.map_cons, List.map_nil, List.getD_cons_zero, List.getD_cons_succ, List.mem_cons, List.not_mem_nil, or_false] at ho
      rcases ho with rfl | rfl | rfl | rfl | rfl | rfl | rfl | rfl | rfl | rfl | rfl
      all_goals
        refine float_any ?_
        repeat (first
          | go_big_quiet_step (first
            | (go_at_call 9; with_reducible exact quiet_eq (HM8.out _))
            | (go_at_call 9; with_reducible exact quiet_eq (HM5.out _))))
        refine wpQuiet_nil ?_
        rfl
    refine wpTree_one ?_
    try simp only [pick, List.map_nil]
    repeat (first
      | go_big_quiet_step (first
        | (go_at_call 9; with_reducible exact quiet_eq (HM8.out _))
        | (go_at_call 9; with_reducible exact quiet_eq (HM5.out _))))
    refine wpQuiet_nil ?_
    intro n14
    try simp only [pick, List.map_cons, List.map_nil, List.getD_cons_zero, List.getD_cons_succ]
    go_wp2_with (go_at_call 15; (with_reducible refine (HPS.out _).mono ?_); rintro e p14 ⟨rfl, Dn14⟩)
    have En14 := ((Ch.refl [] b13).drewN n14).trans Dn14
    replace BP := BP.ch En14 (by simp)
    replace BR := BR.ch En14 (by simp)
    replace BQ := BQ.ch En14 (by simp)
    replace CX := CX.trans En14
    clear En14 e2 e4 e5
    have e2 : p14.cell? ⟨w.heap.size, 2, none⟩ = some (.slice tA n tc) := BP.cell 2
    have e4 : p14.cell? ⟨w.heap.size, 4, none⟩ = some (.int .u64 tw) := BP.cell 4
    have e5 : p14.cell? ⟨w.heap.size, 5, none⟩ = some (.int .i64 tm) := BP.cell 5
    refine stagePost_mk ?_ ?_
    · intro o ho
      simp only [pick, List.map_cons, List.map_nil, List.getD_cons_zero, List.getD_cons_succ, List.mem_cons, List.not_mem_nil, or_false] at ho
      rcases ho with rfl | rfl | rfl | rfl | rfl | rfl | rfl | rfl | rfl | rfl
      all_goals
        refine float_any ?_
        repeat (first
          | go_big_quiet_step (first
            | (go_at_call 9; with_reducible exact quiet_eq (HM8.out _))
            | (go_at_call 9; with_reducible exact quiet_eq (HM5.out _))))
        refine wpQuiet_nil ?_
        rfl
    refine wpTree_one ?_
    try simp only [pick, List.map_cons, List.map_nil, List.getD_cons_zero, List.getD_cons_succ]
    repeat (first
      | go_big_quiet_step (first
        | (go_at_call 9; with_reducible exact quiet_eq (HM8.out _))
        | (go_at_call 9; with_reducible exact quiet_eq (HM5.out _))))
    refine wpQuiet_nil ?_
    intro n15
    try simp only [pick, List.map_cons, List.map_nil, List.getD_cons_zero, List.getD_cons_succ]
    go_wp2_with (go_at_call 53; (with_reducible refine (HRU.out _ (CX.drewN n15) _).mono ?_); rintro e r15 ⟨⟨A1, c1, L1, rfl, OW, HL1, HK1, HN1⟩, Dn15⟩; clear HN1)
    have hc0 := CX.size
    replace HK1 := hid HK1
    have hr0 := BR.lt
    have hA1 : ∀ b ∈ blkOf A1, w.heap.size + 2 ≤ b := fun b hb => by have h1 : p14.heap.size ≤ b := (OW.blks b hb).1; omega
    have hq0 := BQ.lt
    have hgA : gq ∉ blkOf A1 := fun h => by have h1 : p14.heap.size ≤ gq := (OW.blks _ h).1; omega
    replace OW := OW.base (B' := w.heap.size) hc0
    have En15 := ((Ch.refl [] p14).drewN n15).trans Dn15
    replace BP := BP.ch En15 (by simp)
    replace BR := BR.ch En15 (by simp)
    replace BQ := BQ.ch En15 (by simp)
    replace CX := CX.trans En15
    clear En15 e2 e4 e5
    have e2 : r15.cell? ⟨w.heap.size, 2, none⟩ = some (.slice tA n tc) := BP.cell 2
    have e4 : r15.cell? ⟨w.heap.size, 4, none⟩ = some (.int .u64 tw) := BP.cell 4
    have e5 : r15.cell? ⟨w.heap.size, 5, none⟩ = some (.int .i64 tm) := BP.cell 5
    refine stagePost_mk ?_ ?_
    · intro o ho
      simp only [pick, List.map_cons, List.map_nil, List.getD_cons_zero, List.getD_cons_succ, List.mem_cons, List.not_mem_nil, or_false] at ho
      rcases ho with rfl | rfl | rfl | rfl | rfl | rfl
      all_goals
        refine float_any ?_
        repeat (first
          | go_big_quiet_step (first
            | (go_at_call 9; with_reducible exact quiet_eq (HM8.out _))
            | (go_at_call 9; with_reducible exact quiet_eq (HM5.out _))))
        refine wpQuiet_nil ?_
        rfl
    refine wpTree_one ?_
    try simp only [pick, List.map_cons, List.map_nil, List.getD_cons_zero, List.getD_cons_succ]
    repeat (first
      | go_big_quiet_step (first
        | (go_at_call 9; with_reducible exact quiet_eq (HM8.out _))
        | (go_at_call 9; with_reducible exact quiet_eq (HM5.out _))))
    refine wpQuiet_nil ?_
    intro n16
    try simp only [pick, List.map_cons, List.map_nil, List.getD_cons_zero, List.getD_cons_succ]
    have BQ' := BQ.drewN n16
    go_wp2_with (refine wpList_storeB rfl 47 _ _ rfl gq 47 (tnC tn0) (tnC ⟨us, ps, A1, c1, L1, 30, 1 + tw % 60, 1 + k5⟩) rfl rfl BQ' HI6.out rfl (tn_one _) ?_; intro s16 BS Dn16 Z; clear Z)
    have En16 := ((Ch.refl [gq] r15).drewN n16).trans Dn16
    replace BP := BP.ch En16 (by simp; omega)
    replace BR := BR.ch En16 (by simp; omega)
    replace OW := OW.ch En16 (fun b hb h => by rw [List.mem_singleton] at h; subst h; exact hgA hb)
    replace CX := CX.step En16 (fun i hi => .inr (by simp at hi; omega))
    clear e2 e4 e5 BQ BQ'
    have e3 : s16.cell? ⟨w.heap.size, 3, none⟩ = some (.int .i64 tb) := BP.cell 3
    refine stagePost_mk (by simp [pick]) ?_
    refine wpTree_last ?_
    try simp only [pick, List.map_nil]
    repeat (first
      | go_big_quiet_step (first
        | (go_at_call 9; with_reducible exact quiet_eq (HM8.out _))
        | (go_at_call 9; with_reducible exact quiet_eq (HM5.out _))))
    refine wpQuiet_nil ?_
    intro n17
    have BP' := BP.drewN n17
    have BS' := BS.drewN n17
    have BR' := BR.drewN n17
    have OW' := OW.drewN n17
    have CX' := CX.drewN n17
    clear e3
    have e3 : (s16.drewN n17).cell? ⟨w.heap.size, 3, none⟩ = some (.int .i64 tb) := BP'.cell 3
    have f3 := BS'.cell 3
    have g3 := BS'.frozen 3
    cases hk : (k3 == 0)
    · go_wp2_with (first
        | go_big_skip
        | (go_at_call 9; (with_reducible refine (HM3.out _).mono ?_); rintro e w9 ⟨rfl, rfl⟩)
        | (refine wpList_load_want rfl 47 _ rfl gq 0 rfl (tnC ⟨us, ps, A1, c1, L1, 30, 1 + tw % 60, 1 + k5⟩) _ BS'.range Tryd.underlying47 rfl HI6.out ?_)
        | (refine wpList_storeB rfl 47 _ _ rfl (w.heap.size + 1) 47 (tnC tn0) (tnC ⟨us, ps, A1, c1, L1, 30, 1 + tw % 60, 1 + k5⟩) rfl rfl BR' HI6.out rfl (tn_one _) ?_; intro wz BZ DZ ZZ))
      try simp only [Exit.inBlock, Exit.then]
      refine bodyPost_ret (results_row1 rfl _ _ rfl BZ Tryd.underlying47 rfl HI6.out) rfl ?_
      exact ⟨⟨_, rfl, ⟨HUQ.out.symm, HPQ.out.symm, HK1.out, HL1, by show (0 : Int) ≤ 30; omega, by show (30 : Int) ≤ 30; omega, by show 1 ≤ 1 + tw % 60; omega, by show 1 + tw % 60 ≤ 60; omega, by show 1 ≤ 1 + k5; omega, by show 1 + k5 ≤ 5; omega⟩, OW'.ch DZ (fun b hb h => by rw [List.mem_singleton] at h; have := hA1 b hb; omega), hA1⟩, CX'.step DZ (fun i hi => .inr (by simp at hi; omega))⟩
    · go_upto_region 4 with (first
        | go_big_skip
        | (go_at_call 9; (with_reducible refine (HM3.out _).mono ?_); rintro e w9 ⟨rfl, rfl⟩)
        | (go_at_call 9; (with_reducible refine (HB5.out _).mono ?_); rintro e w9 ⟨rfl, rfl⟩))
      have BS2 : Blk ((s16.drewN n17).setCell ⟨gq, 3, none⟩ (.int .i64 b5)) gq 47 (tnC ⟨us, ps, A1, c1, L1, b5, 1 + tw % 60, 1 + k5⟩) := BS'.set 3 (.int .i64 b5)
      have D7 : Ch [gq] (s16.drewN n17) ((s16.drewN n17).setCell ⟨gq, 3, none⟩ (.int .i64 b5)) := (Ch.refl [gq] _).setCell (p := ⟨gq, 3, none⟩) (.inl (by simp)) _
      have BR2 := BR'.ch D7 (by simp; omega)
      have OW2 := OW'.ch D7 (fun b hb h => by rw [List.mem_singleton] at h; subst h; exact hgA hb)
      have CX2 := CX'.step D7 (fun i hi => .inr (by simp at hi; omega))
      generalize (s16.drewN n17).setCell ⟨gq, 3, none⟩ (.int .i64 b5) = wy at BS2 BR2 OW2 CX2 ⊢
      clear f3 g3 e3 D7
      go_wp2_with (first
        | go_big_skip
        | (refine wpList_load_want rfl 47 _ rfl gq 0 rfl (tnC ⟨us, ps, A1, c1, L1, b5, 1 + tw % 60, 1 + k5⟩) _ BS2.range Tryd.underlying47 rfl HI6.out ?_)
        | (refine wpList_storeB rfl 47 _ _ rfl (w.heap.size + 1) 47 (tnC tn0) (tnC ⟨us, ps, A1, c1, L1, b5, 1 + tw % 60, 1 + k5⟩) rfl rfl BR2 HI6.out rfl (tn_one _) ?_; intro wz BZ DZ ZZ))
      try simp only [Exit.inBlock, Exit.then]
      refine bodyPost_ret (results_row1 rfl _ _ rfl BZ Tryd.underlying47 rfl HI6.out) rfl ?_
      exact ⟨⟨_, rfl, ⟨HUQ.out.symm, HPQ.out.symm, HK1.out, HL1, by show (0 : Int) ≤ b5; omega, by show b5 ≤ 30; omega, by show 1 ≤ 1 + tw % 60; omega, by show 1 + tw % 60 ≤ 60; omega, by show 1 ≤ 1 + k5; omega, by show 1 + k5 ≤ 5; omega⟩, OW2.ch DZ (fun b hb h => by rw [List.mem_singleton] at h; have := hA1 b hb; omega), hA1⟩, CX2.step DZ (fun i hi => .inr (by simp at hi; omega))⟩
end Go.Proofs.YtbmbnibamhgfmaaDoor
