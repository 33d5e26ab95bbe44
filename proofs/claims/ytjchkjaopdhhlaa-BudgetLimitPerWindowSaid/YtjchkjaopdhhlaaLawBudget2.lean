/- Two more of the statements about layer 13 (budget). -/
import Derived.Test.YtjchkjaopdhhlaaLawBudget
namespace Go.Proofs.Ytjchkjaopdhhlaa
open Go.ChangeShapes Go.WideShapes Go.ChangeAt Go.RowKit

theorem winT_pos {a b : Int} (h : 1 ≤ b) : winT a b = a / b := by rw [winT, if_neg (by omega)]
theorem bud_same_full {n wd q u t : Int} (h : 1 ≤ wd) (hq : t / wd = q) (hu : u = n) : (⟨n, wd, q, u⟩ : Bud).grants t = false ∧ (⟨n, wd, q, u⟩ : Bud).next t = ⟨n, wd, q, u⟩ := by
  have ha : (⟨n, wd, q, u⟩ : Bud).at_ t = ⟨n, wd, q, u⟩ := by rw [Bud.at_, if_neg (by rw [winT_pos h, hq]; simp)]
  have hg : (⟨n, wd, q, u⟩ : Bud).grants t = false := by rw [Bud.grants, ha]; simp [hu]
  exact ⟨hg, by rw [Bud.next, hg, ha]; simp⟩
theorem bud_same_left {n wd q u t : Int} (h : 1 ≤ wd) (hq : t / wd = q) (hu : u ≠ n) : (⟨n, wd, q, u⟩ : Bud).grants t = true ∧ (⟨n, wd, q, u⟩ : Bud).next t = ⟨n, wd, q, u + 1⟩ := by
  have ha : (⟨n, wd, q, u⟩ : Bud).at_ t = ⟨n, wd, q, u⟩ := by rw [Bud.at_, if_neg (by rw [winT_pos h, hq]; simp)]
  have hg : (⟨n, wd, q, u⟩ : Bud).grants t = true := by rw [Bud.grants, ha]; simp [hu]
  exact ⟨hg, by rw [Bud.next, hg, ha]; simp⟩
theorem bud_new_full {n wd q u t : Int} (h : 1 ≤ wd) (hq : q < t / wd) (hn : n = 0) : (⟨n, wd, q, u⟩ : Bud).grants t = false ∧ (⟨n, wd, q, u⟩ : Bud).next t = ⟨n, wd, t / wd, 0⟩ := by
  have ha : (⟨n, wd, q, u⟩ : Bud).at_ t = ⟨n, wd, t / wd, 0⟩ := by rw [Bud.at_, if_pos (by rw [winT_pos h]; exact hq), winT_pos h]
  have hg : (⟨n, wd, q, u⟩ : Bud).grants t = false := by rw [Bud.grants, ha]; simp [hn]
  exact ⟨hg, by rw [Bud.next, hg, ha]; simp⟩
theorem bud_new_left {n wd q u t : Int} (h : 1 ≤ wd) (hq : q < t / wd) (hn : n ≠ 0) : (⟨n, wd, q, u⟩ : Bud).grants t = true ∧ (⟨n, wd, q, u⟩ : Bud).next t = ⟨n, wd, t / wd, 1⟩ := by
  have ha : (⟨n, wd, q, u⟩ : Bud).at_ t = ⟨n, wd, t / wd, 0⟩ := by rw [Bud.at_, if_pos (by rw [winT_pos h]; exact hq), winT_pos h]
  have hg : (⟨n, wd, q, u⟩ : Bud).grants t = true := by rw [Bud.grants, ha]; simp; omega
  exact ⟨hg, by rw [Bud.next, hg, ha]; simp⟩

set_option maxRecDepth 100000 in
set_option maxHeartbeats 1000000 in
theorem budgetLimitPerWindow_came {H : Type} {enc : TypeId × Value → H} (W : World) (args : Array Value) (ds : List (DataW H)) (h : Came enc Try.prog Try.f9 W args ds) :
    Calls Try.prog 9 args W fun e W' => e = .returned (.bool true) ∧ Below W.heap.size W W' := by
  obtain ⟨v0, v1, v2, d0, d1, d2, rfl, a0, a1, a2⟩ := h.args3 rfl
  obtain ⟨n, rfl, hn, hn'⟩ := a0.i64 Try.underlying3
  obtain ⟨wd, rfl, hw, hw'⟩ := a1.u64 Try.underlying22
  obtain ⟨A, len, cap, zs, rfl, hl, hc, hsz, hrd, hwf⟩ := a2.ints Try.underlying27 Try.underlying22 (by kernel_rfl)
  unfold maxLen at hc
  clear h a0 a1 a2
  obtain ⟨m0, m1⟩ := modI_rng n 8 (by omega)
  have hwd : 0 ≤ wd % 30 ∧ wd % 30 < 30 := by omega
  have hB := hid (Blk.new W 71 (Bud.cells ⟨modI n 8, 1 + wd % 30, 0, 0⟩))
  go_enter Try.func9, Try.ntmps9
  go_wp2_with fail
  refine (genMod _ _ _ (by omega) (by omega)).mono ?_
  rintro e w' ⟨rfl, rfl⟩
  go_wp2_with fail
  refine (budNew_ok _ _ _ (by omega) (by omega) (by omega) (by omega)).mono ?_
  rintro e w' ⟨rfl, rfl⟩
  go_wp2_with fail
  go_loopw [11, 12, 13, 14] (fun t wn us i wr => ∃ (k : Nat) (T u : Int), k ≤ len ∧ k ≤ 200 ∧ i = .int .i64 k ∧ 0 ≤ T ∧ T ≤ 6 * k ∧ t = .int .u64 T ∧ wn = .int .u64 (T / (1 + wd % 30)) ∧ us = .int .i64 u ∧ 0 ≤ u ∧ u ≤ modI n 8 ∧
      Blk wr W.heap.size 71 (Bud.cells ⟨modI n 8, 1 + wd % 30, T / (1 + wd % 30), u⟩) ∧ Below W.heap.size W wr) (fun _ _ _ i _ => len - (intOf i).toNat)
  case atStart => exact ⟨0, 0, 0, Nat.zero_le _, Nat.zero_le _, rfl, by omega, by omega, rfl, by simp, rfl, by omega, by omega, by rw [Int.zero_ediv]; exact hB.out, (Below.refl _ _).alloc (Nat.le_refl _) _⟩
  case round =>
    obtain ⟨k, T, u, hk, hk2, rfl, hT0, hT1, rfl, rfl, rfl, hu0, hu1, hP, hbW⟩ := hrel
    by_cases hl1 : k < len
    · by_cases hl2 : k < 200
      · have hlb : decide ((k : Int) < 200) = true := by simp; omega
        have hrdw := hrd.below hbW
        obtain ⟨b, off, rfl, hb, hcell⟩ := hrdw.2 (by omega)
        have hk' := hcell k hl1
        obtain ⟨z0, z1⟩ := bounds_u64 (hwf _ (at_mem zs k (by have := hrd.1; omega)))
        generalize at_ zs k = z at *
        have hz7 : 0 ≤ z % 7 ∧ z % 7 ≤ 6 := by omega
        obtain ⟨y0, y1⟩ := hz7
        have hq0 : 0 ≤ T / (1 + wd % 30) := Int.ediv_nonneg hT0 (by omega)
        have hq1 : T / (1 + wd % 30) ≤ T := Int.ediv_le_self _ hT0
        have hq2 : 0 ≤ (T + z % 7) / (1 + wd % 30) := Int.ediv_nonneg (by omega) (by omega)
        have hq3 : (T + z % 7) / (1 + wd % 30) ≤ T + z % 7 := Int.ediv_le_self _ (by omega)
        have hmono : T / (1 + wd % 30) ≤ (T + z % 7) / (1 + wd % 30) := Int.ediv_le_ediv (by omega) (by omega)
        have hOk : Bud.Ok ⟨modI n 8, 1 + wd % 30, T / (1 + wd % 30), u⟩ := by constructor <;> simp only <;> omega
        clear hcell hrdw
        by_cases hq : (T + z % 7) / (1 + wd % 30) = T / (1 + wd % 30)
        · have hqb : ((T + z % 7) / (1 + wd % 30) != T / (1 + wd % 30)) = false := by simp [hq]
          by_cases hu : u = modI n 8
          · have HG := hid (bud_same_full (t := T + z % 7) (wd := 1 + wd % 30) (by omega) hq hu)
            have hge : modI n 8 ≤ u := by omega
            have HQ := hid hq
            clear hu hq
            go_wp2_with (first
              | (go_at_call 33; with_reducible refine (budChargeAs _ _ _ _ _ _ ?_ hOk ?_ ?_ HG.out.1 HG.out.2).mono ?_; exact hP; omega; omega; rintro e w1 ⟨rfl, B1, C1⟩)
              | (go_at_call 28; with_reducible refine (budUsed _ _ _ B1).mono ?_; rintro e w' ⟨rfl, rfl⟩)
              | (go_at_call 29; with_reducible refine (budWindow _ _ _ B1).mono ?_; rintro e w' ⟨rfl, rfl⟩))
            go_roundw
            case rel => exact ⟨k + 1, T + z % 7, u, by omega, by omega, by go_num, by omega, by omega, rfl, by rw [HQ.out], rfl, by omega, by omega, by rw [HQ.out]; exact B1, Below.ch hbW C1 (by simp) hbW.size⟩
            case measure => simp [intOf]; omega
          · have HG := hid (bud_same_left (t := T + z % 7) (wd := 1 + wd % 30) (by omega) hq hu)
            have hge : u < modI n 8 := by omega
            have HQ := hid hq
            clear hu hq
            go_wp2_with (first
              | (go_at_call 33; with_reducible refine (budChargeAs _ _ _ _ _ _ ?_ hOk ?_ ?_ HG.out.1 HG.out.2).mono ?_; exact hP; omega; omega; rintro e w1 ⟨rfl, B1, C1⟩)
              | (go_at_call 28; with_reducible refine (budUsed _ _ _ B1).mono ?_; rintro e w' ⟨rfl, rfl⟩)
              | (go_at_call 29; with_reducible refine (budWindow _ _ _ B1).mono ?_; rintro e w' ⟨rfl, rfl⟩))
            go_roundw
            case rel => exact ⟨k + 1, T + z % 7, u + 1, by omega, by omega, by go_num, by omega, by omega, rfl, by rw [HQ.out], rfl, by omega, by omega, by rw [HQ.out]; exact B1, Below.ch hbW C1 (by simp) hbW.size⟩
            case measure => simp [intOf]; omega
        · have hqb : ((T + z % 7) / (1 + wd % 30) != T / (1 + wd % 30)) = true := by simp [hq]
          have hlt : T / (1 + wd % 30) < (T + z % 7) / (1 + wd % 30) := by omega
          by_cases hu : modI n 8 = 0
          · have HG := hid (bud_new_full (t := T + z % 7) (u := u) (wd := 1 + wd % 30) (by omega) hlt hu)
            have hge : modI n 8 ≤ 0 := by omega
            clear hu hq
            go_wp2_with (first
              | (go_at_call 33; with_reducible refine (budChargeAs _ _ _ _ _ _ ?_ hOk ?_ ?_ HG.out.1 HG.out.2).mono ?_; exact hP; omega; omega; rintro e w1 ⟨rfl, B1, C1⟩)
              | (go_at_call 28; with_reducible refine (budUsed _ _ _ B1).mono ?_; rintro e w' ⟨rfl, rfl⟩)
              | (go_at_call 29; with_reducible refine (budWindow _ _ _ B1).mono ?_; rintro e w' ⟨rfl, rfl⟩))
            go_roundw
            case rel => exact ⟨k + 1, T + z % 7, 0, by omega, by omega, by go_num, by omega, by omega, rfl, rfl, rfl, by omega, by omega, B1, Below.ch hbW C1 (by simp) hbW.size⟩
            case measure => simp [intOf]; omega
          · have HG := hid (bud_new_left (t := T + z % 7) (u := u) (wd := 1 + wd % 30) (by omega) hlt hu)
            have hge : 0 < modI n 8 := by omega
            clear hu hq
            go_wp2_with (first
              | (go_at_call 33; with_reducible refine (budChargeAs _ _ _ _ _ _ ?_ hOk ?_ ?_ HG.out.1 HG.out.2).mono ?_; exact hP; omega; omega; rintro e w1 ⟨rfl, B1, C1⟩)
              | (go_at_call 28; with_reducible refine (budUsed _ _ _ B1).mono ?_; rintro e w' ⟨rfl, rfl⟩)
              | (go_at_call 29; with_reducible refine (budWindow _ _ _ B1).mono ?_; rintro e w' ⟨rfl, rfl⟩))
            go_roundw
            case rel => exact ⟨k + 1, T + z % 7, 1, by omega, by omega, by go_num, by omega, by omega, rfl, rfl, rfl, by omega, by omega, B1, Below.ch hbW C1 (by simp) hbW.size⟩
            case measure => simp [intOf]; omega
      · have hl2 : decide ((k : Int) < 200) = false := by simp; omega
        go_wp2_with (go_at_call 27; refine (budAwake _).mono ?_; rintro e w' ⟨rfl, hb1⟩)
        go_ret
        exact ⟨rfl, hbW.trans (hb1.mono hbW.size)⟩
    · go_wp2_with (go_at_call 27; refine (budAwake _).mono ?_; rintro e w' ⟨rfl, hb1⟩)
      go_ret
      exact ⟨rfl, hbW.trans (hb1.mono hbW.size)⟩
end Go.Proofs.Ytjchkjaopdhhlaa
