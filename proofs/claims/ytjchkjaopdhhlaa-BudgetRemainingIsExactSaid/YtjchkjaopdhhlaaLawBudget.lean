/- The four statements about layer 13 (budget): for every input the law returns true and turns nothing that was there. -/
import Derived.Test.YtjchkjaopdhhlaaRows
import Derived.Test.YtjchkjaopdhhlaaBudgetRef
import Derived.Test.YtjchkjaopdhhlaaShell
import Derived.Test.YtjchkjaopdhhlaaGen
import Derived.Test.YtjchkjaopdhhlaaStages
import Derived.Deep.RegionHeld3
import Derived.Deep.DeepCutAuto
namespace Go.Proofs.Ytjchkjaopdhhlaa
open Go.ChangeShapes Go.WideShapes Go.ChangeAt Go.RowKit

theorem budChargeAs (g : Nat) (s s' : Bud) (r : Bool) (now : Int) (w : World) (h : Blk w g 71 s.cells) (hs : s.Ok) (h0 : 0 ≤ now) (h1 : now ≤ 18446744073709551615) (hr : s.grants now = r) (hn : s.next now = s') :
    Calls Try.prog 33 #[.pointer (some ⟨g, 0, none⟩), .int .u64 now] w fun e w' => e = .returned (.bool r) ∧ Blk w' g 71 s'.cells ∧ Ch [g] w w' := by
  subst hr; subst hn; exact budCharge g s now w h hs h0 h1
theorem budRemainingAs (g : Nat) (s : Bud) (r : Int) (now : Int) (w : World) (h : Blk w g 71 s.cells) (hs : s.Ok) (h0 : 0 ≤ now) (h1 : now ≤ 18446744073709551615) (hr : s.left now = r) :
    Calls Try.prog 30 #[.pointer (some ⟨g, 0, none⟩), .int .u64 now] w fun e w' => e = .returned (.int .i64 r) ∧ Blk w' g 71 s.cells ∧ Ch [] w w' := by
  subst hr
  exact (budRemaining g s now w h hs h0 h1).mono fun e w' ⟨he, k, hk⟩ => by subst hk; exact ⟨he, h.drewN k, (Ch.refl _ _).drewN k⟩

theorem budAwake (w : World) : Calls Try.prog 27 #[] w fun e w' => e = .returned (.bool true) ∧ Below w.heap.size w w' := by
  have k1 : Bud.Ok ⟨1, 10, 0, 0⟩ := by constructor <;> simp
  have k2 : Bud.Ok ⟨1, 10, 0, 1⟩ := by constructor <;> simp
  have k3 : Bud.Ok ⟨1, 10, 1, 1⟩ := by constructor <;> simp
  have B0 := Blk.new w 71 (Bud.cells ⟨1, 10, 0, 0⟩)
  have HB := hid B0
  clear B0
  go_enter Try.func27, Try.ntmps27
  go_wp2_with fail
  refine (budNew_ok 1 10 _ (by omega) (by omega) (by omega) (by omega)).mono ?_
  rintro e w' ⟨rfl, rfl⟩
  go_wp2_with fail
  refine (budNew_bad (-1) 10 _ (by omega)).mono ?_
  rintro e w' ⟨rfl, rfl⟩
  go_wp2_with fail
  refine (budChargeAs _ ⟨1, 10, 0, 0⟩ ⟨1, 10, 0, 1⟩ true 5 _ HB.out k1 (by omega) (by omega) rfl rfl).mono ?_
  rintro e w1 ⟨rfl, B1, C1⟩
  go_wp2_with fail
  refine (budChargeAs _ ⟨1, 10, 0, 1⟩ ⟨1, 10, 0, 1⟩ false 9 _ B1 k2 (by omega) (by omega) rfl rfl).mono ?_
  rintro e w2 ⟨rfl, B2, C2⟩
  go_wp2_with fail
  refine (budChargeAs _ ⟨1, 10, 0, 1⟩ ⟨1, 10, 1, 1⟩ true 10 _ B2 k2 (by omega) (by omega) rfl rfl).mono ?_
  rintro e w3 ⟨rfl, B3, C3⟩
  go_wp2_with fail
  refine (budChargeAs _ ⟨1, 10, 1, 1⟩ ⟨1, 10, 1, 1⟩ false 3 _ B3 k3 (by omega) (by omega) rfl rfl).mono ?_
  rintro e w4 ⟨rfl, B4, C4⟩
  go_wp2_with fail
  refine (budWindow _ _ _ B4).mono ?_
  rintro e w' ⟨rfl, rfl⟩
  go_wp2_with fail
  refine (budUsed _ _ _ B4).mono ?_
  rintro e w' ⟨rfl, rfl⟩
  go_wp2_with fail
  refine (budRemainingAs _ _ 1 30 _ B4 k3 (by omega) (by omega) rfl).mono ?_
  rintro e w5 ⟨rfl, B5, C5⟩
  go_wp2_with fail
  refine (budRemainingAs _ _ 0 11 _ B5 k3 (by omega) (by omega) rfl).mono ?_
  rintro e w6 ⟨rfl, B6, C6⟩
  go_wp2_with fail
  go_ret
  refine ⟨rfl, ?_⟩
  have hall : Ch [w.heap.size] (w.alloc (.cells (Bud.cells ⟨1, 10, 0, 0⟩).toArray 71)) w6 :=
    ((((C1.trans C2).trans C3).trans C4).step C5 (by simp)).step C6 (by simp)
  exact Below.ch ((Below.refl _ _).alloc (Nat.le_refl _) _) hall (by simp) (by simp)

theorem budgetValidatesParameters_came {H : Type} {enc : TypeId × Value → H} (W : World) (args : Array Value) (ds : List (DataW H)) (h : Came enc Try.prog Try.f7 W args ds) :
    Calls Try.prog 7 args W fun e W' => e = .returned (.bool true) ∧ Below W.heap.size W W' := by
  obtain ⟨v0, v1, d0, d1, rfl, a0, a1⟩ := h.args2 rfl
  obtain ⟨n, rfl, hn, hn'⟩ := a0.i64 Try.underlying3
  obtain ⟨wd, rfl, hw, hw'⟩ := a1.u64 Try.underlying22
  clear h a0 a1
  by_cases hv : 0 ≤ n ∧ n ≤ 1000 ∧ 1 ≤ wd ∧ wd ≤ 1099511627776
  · obtain ⟨h1, h2, h3, h4⟩ := hv
    have hvb : validBud n wd = true := by simp [validBud]; omega
    have k1 : Bud.Ok ⟨n, wd, 0, 0⟩ := by constructor <;> simp <;> omega
    have HB := hid (Blk.new W 71 (Bud.cells ⟨n, wd, 0, 0⟩))
    have hl : (⟨n, wd, 0, 0⟩ : Bud).left 0 = n := by
      have : winT 0 wd = 0 := by unfold winT; split <;> simp
      simp [Bud.left, Bud.at_, this]
    have HL := hid hl
    clear hl
    go_enter Try.func7, Try.ntmps7
    go_wp2_with fail
    refine (budNew_ok n wd _ (by omega) (by omega) (by omega) (by omega)).mono ?_
    rintro e w' ⟨rfl, rfl⟩
    go_wp2_with fail
    refine (rudValid _ _ _).mono ?_
    rintro e w' ⟨rfl, rfl⟩
    go_wp2_with fail
    refine (budAwake _).mono ?_
    rintro e w1 ⟨rfl, hb1⟩
    have B1 := HB.out.below hb1 (by simp)
    go_wp2_with fail
    refine (budUsed _ _ _ B1).mono ?_
    rintro e w' ⟨rfl, rfl⟩
    go_wp2_with fail
    refine (budWindow _ _ _ B1).mono ?_
    rintro e w' ⟨rfl, rfl⟩
    go_wp2_with fail
    refine (budRemainingAs _ _ n 0 _ B1 k1 (by omega) (by omega) HL.out).mono ?_
    rintro e w5 ⟨rfl, B5, C5⟩
    go_wp2_with fail
    go_ret
    exact ⟨ret_bool (by simp), Below.ch (((Below.refl _ _).alloc (Nat.le_refl _) _).trans (hb1.mono (by simp))) C5 (by simp) (by have := hb1.size; simp at this; omega)⟩
  · have hvb : validBud n wd = false := by simp [validBud]; omega
    go_enter Try.func7, Try.ntmps7
    go_wp2_with fail
    refine (budNew_bad n wd _ (by omega)).mono ?_
    rintro e w' ⟨rfl, rfl⟩
    go_wp2_with fail
    refine (rudValid _ _ _).mono ?_
    rintro e w' ⟨rfl, rfl⟩
    go_wp2_with fail
    refine (budAwake _).mono ?_
    rintro e w1 ⟨rfl, hb1⟩
    go_wp2_with fail
    go_ret
    exact ⟨rfl, hb1⟩

/-- A budget and its model, in their blocks. -/
def Pair (g k : Nat) (s : Bud) (w : World) : Prop := Blk w g 71 s.cells ∧ Blk w k 45 s.cells

set_option maxRecDepth 100000 in
set_option maxHeartbeats 1000000 in
theorem budgetMatchesModel_came {H : Type} {enc : TypeId × Value → H} (W : World) (args : Array Value) (ds : List (DataW H)) (h : Came enc Try.prog Try.f8 W args ds) :
    Calls Try.prog 8 args W fun e W' => e = .returned (.bool true) ∧ Below W.heap.size W W' := by
  obtain ⟨v0, v1, v2, v3, d0, d1, d2, d3, rfl, a0, a1, a2, a3⟩ := h.args4 rfl
  obtain ⟨n, rfl, hn, hn'⟩ := a0.i64 Try.underlying3
  obtain ⟨wd, rfl, hw, hw'⟩ := a1.u64 Try.underlying22
  obtain ⟨A, len, cap, zs, rfl, hl, hc, hsz, hrd, hwf⟩ := a2.ints Try.underlying27 Try.underlying22 (by kernel_rfl)
  obtain ⟨far, rfl⟩ := a3.bool Try.underlying4
  unfold maxLen at hc
  clear h a0 a1 a2 a3
  obtain ⟨m0, m1⟩ := modI_rng n 6 (by omega)
  have hwd : 0 ≤ wd % 20 ∧ wd % 20 < 20 := by omega
  have k1 : Bud.Ok ⟨modI n 6, 1 + wd % 20, 0, 0⟩ := by constructor <;> simp <;> omega
  go_enter Try.func8, Try.ntmps8
  go_wp2_with fail
  refine (genMod _ _ _ (by omega) (by omega)).mono ?_
  rintro e w' ⟨rfl, rfl⟩
  go_wp2_with fail
  refine (budNew_ok _ _ _ (by omega) (by omega) (by omega) (by omega)).mono ?_
  rintro e w' ⟨rfl, rfl⟩
  go_wp2_with fail
  go_loopw [14, 15] (fun i t wr => ∃ k : Nat, k ≤ len ∧ k ≤ 200 ∧ i = .int .i64 k ∧ ∃ s : Bud, s.Ok ∧ Pair W.heap.size (W.heap.size + 1) s wr ∧ Below W.heap.size W wr) (fun i _ _ => len - (intOf i).toNat)
  case atStart =>
    refine ⟨0, Nat.zero_le _, Nat.zero_le _, rfl, _, k1, ⟨?_, ?_⟩, ?_⟩
    · exact (Blk.new W 71 (Bud.cells ⟨modI n 6, 1 + wd % 20, 0, 0⟩)).alloc _
    · exact Blk.newAt (W.alloc _) 45 (Bud.cells ⟨modI n 6, 1 + wd % 20, 0, 0⟩) (by simp)
    · exact ((Below.refl _ _).alloc (Nat.le_refl _) _).alloc (by simp) _
  case round =>
    obtain ⟨k, hk, hk2, rfl, s, hs, ⟨hP, hM⟩, hbW⟩ := hrel
    by_cases hlt : k < len ∧ k < 200
    · obtain ⟨hl1, hl2⟩ := hlt
      have hrdw := hrd.below hbW
      obtain ⟨b, off, rfl, hb, hcell⟩ := hrdw.2 (by omega)
      have hk' := hcell k hl1
      have hwfk := bounds_u64 (hwf _ (at_mem zs k (by have := hrd.1; omega)))
      obtain ⟨z0, z1⟩ := hwfk
      generalize hz : at_ zs k = z at *
      clear hcell hrdw hz
      have HSN := hid (Bud.next_ok hs)
      have hlb : decide ((k : Int) < 200) = true := by simp; omega
      go_upto_region 12 with fail
      all_goals
        go_cut [88] from 37 to 88 (fun c wx => c = .bool false ∧ ∃ s : Bud, s.Ok ∧ Pair W.heap.size (W.heap.size + 1) s wx ∧ Below W.heap.size W wx)
        case first =>
          refine wp_region_stages [([0, 1, 2, 3, 4, 5, 6, 7, 8, 9, 11, 12], 10, [11, 12]), ([], 13, [])] [14, 15, 16, 17, 18, 19, 20, 21, 22, 23, 24, 25, 26, 27, 28, 29, 30, 31, 32, 33] (by kernel_rfl) (by kernel_rfl) ?_
          refine wpStages_step ?_
          simp only [pick, List.map_cons, List.map_nil, List.getD_cons_zero, List.getD_cons_succ]
          repeat (go_big_quiet_step (first
            | (go_at_call 30; exact Calls.quiet_of (budRemaining _ s _ _ (hP.heap rfl) hs (by omega) (by omega)))
            | (go_at_call 32; exact Calls.quiet_of (rudRemaining _ s _ _ (hM.heap rfl) hs (by omega) (by omega)))))
          refine wpQuiet_nil ?_
          intro nq
          simp only [pick, List.map_cons, List.map_nil, List.getD_cons_zero, List.getD_cons_succ]
          go_wp2_with (go_at_call 33; with_reducible refine (budCharge _ s _ _ ?_ hs ?_ ?_).mono ?_; exact hP.heap rfl; omega; omega; rintro e w1 ⟨rfl, B1, C1⟩)
          refine stagePost_mk ?_ ?_
          · intro o ho
            simp only [pick, List.map_cons, List.map_nil, List.getD_cons_zero, List.getD_cons_succ, List.mem_cons, List.not_mem_nil, or_false] at ho
            rcases ho with rfl | rfl
            · exact float_move _ rfl rfl (holds_of rfl)
            · exact float_move _ rfl rfl (holds_of rfl)
          · have M1 := (hM.drewN nq).ch C1 (by simp)
            have b1 := Below.ch (Below.drewN hbW nq) C1 (by simp) hbW.size
            refine wpStages_step ?_
            simp only [pick, List.map_nil]
            refine wpQuiet_nil ?_
            intro nq2
            simp only [pick, List.map_cons, List.map_nil, List.getD_cons_zero, List.getD_cons_succ]
            go_wp2_with (go_at_call 34; with_reducible refine (rudCharge _ s _ _ ?_ hs ?_ ?_).mono ?_; exact M1.heap rfl; omega; omega; rintro e w2 ⟨rfl, M2, C2⟩)
            refine stagePost_mk (by simp [pick]) ?_
            have B2 := (B1.drewN nq2).ch C2 (by simp)
            have b2 := Below.ch (Below.drewN b1 nq2) C2 (by simp) (by have := b1.size; simpa using this)
            have l2 := M2.cell 2
            have l3 := M2.cell 3
            simp only [Bud.cells, List.getElem?_cons_succ, List.getElem?_cons_zero] at l2 l3
            refine wpStages_last ?_
            simp only [pick, List.map_cons, List.map_nil, List.getD_cons_zero, List.getD_cons_succ]
            repeat (go_big_quiet_step (first
              | (go_at_call 28; exact quiet_eq (budUsed _ _ _ (B2.heap rfl)))
              | (go_at_call 29; exact quiet_eq (budWindow _ _ _ (B2.heap rfl)))))
            refine wpQuiet_nil ?_
            intro nq3
            go_wp2
            go_meet
            exact ⟨rfl, s.next _, HSN.out _ (by omega) (by omega), ⟨B2.drewN _, M2.drewN _⟩, Below.drewN b2 _⟩
        case rest =>
          obtain ⟨rfl, s', hs', hP', hb'⟩ := hcut
          go_wp2_with fail
          go_roundw
          case rel => exact ⟨k + 1, by omega, by omega, by go_num, s', hs', hP', hb'⟩
          case measure => simp [intOf]; omega
    · by_cases hl1 : k < len
      · have hl2 : decide ((k : Int) < 200) = false := by simp; omega
        go_wp2_with (go_at_call 27; refine (budAwake _).mono ?_; rintro e w' ⟨rfl, hb1⟩)
        go_ret
        exact ⟨rfl, hbW.trans (hb1.mono hbW.size)⟩
      · go_wp2_with (go_at_call 27; refine (budAwake _).mono ?_; rintro e w' ⟨rfl, hb1⟩)
        go_ret
        exact ⟨rfl, hbW.trans (hb1.mono hbW.size)⟩
end Go.Proofs.Ytjchkjaopdhhlaa
