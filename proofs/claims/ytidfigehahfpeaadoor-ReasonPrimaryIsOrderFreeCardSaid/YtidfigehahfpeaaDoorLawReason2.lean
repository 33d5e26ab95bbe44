/- The walk of ReasonPrimaryIsOrderFree. -/
import Derived.Test.YtidfigehahfpeaaDoorLawReason
namespace Go.Proofs.YtidfigehahfpeaaDoor
open Go.ChangeShapes Go.WideShapes Go.ChangeAt Go.RowKit

theorem int_info : (Tryd.prog.info? 3).map (fun i => (i.zero, i.size, i.bytes)) = some (some (.int .i64 0), 1, 8) := by kernel_rfl
theorem cells_one (k : IntKind) (zs : List Int) : ∀ u ∈ zs.map (Value.int k), u.oneCell' = true := by
  intro u hu
  obtain ⟨z, _, rfl⟩ := List.mem_map.1 hu
  rfl
theorem RdI.dropAt {k : IntKind} {w : World} {B n g : Nat} {zs : List Int} (h : RdI k w B (some ⟨g, 0, none⟩) n zs) (r : Nat) (hr : r < n) : RdI k w B (some ⟨g, r, none⟩) (n - r) (zs.drop r) :=
  ⟨by rw [List.length_drop, h.1], fun _ => by
    obtain ⟨b, off, e, hb, hc⟩ := h.2 (by omega)
    obtain ⟨rfl, rfl⟩ : g = b ∧ 0 = off := by simpa using e
    refine ⟨g, r, rfl, hb, fun i hi => ?_⟩
    have := hc (r + i) (by omega)
    rw [Nat.zero_add] at this
    rw [this]
    simp [Go.Proofs.YtidfigehahfpeaaDoor.at_, List.getD]⟩
theorem RdI.takeAt {k : IntKind} {w : World} {B n : Nat} {A : Option Addr} {zs : List Int} (h : RdI k w B A n zs) (r : Nat) (hr : r ≤ n) : RdI k w B A r (zs.take r) :=
  ⟨by rw [List.length_take, h.1]; omega, fun hp => by
    obtain ⟨b, off, e, hb, hc⟩ := h.2 (by omega)
    refine ⟨b, off, e, hb, fun i hi => ?_⟩
    rw [hc i (by omega)]
    simp [Go.Proofs.YtidfigehahfpeaaDoor.at_, List.getD, hi]⟩

theorem refPrimaryAs (w : World) (A : Option Addr) (len cap : Nat) (zs : List Int) (B : Nat) (h : RdI .i64 w B A len zs) (hl : len ≤ 9223372036854775807) (r : Int) (hr : primOf zs = r) :
    Calls Tryd.prog 39 #[.slice A len cap] w fun e w' => e = .returned (.int .i64 r) ∧ w = w' := by subst hr; exact refPrimary w A len cap zs B h hl

set_option maxRecDepth 100000 in
set_option maxHeartbeats 4000000 in
theorem reasonPrimaryIsOrderFree_came {H : Type} {enc : TypeId × Value → H} (W : World) (args : Array Value) (ds : List (DataW H)) (_ : laidMetH Tryd.prog Rows.reasonPrimaryIsOrderFreeRow.laid W) (h : Came enc Tryd.prog Tryd.f12 W args ds) :
    Calls Tryd.prog 12 args W fun e W' => e = .returned (.bool true) ∧ Below W.heap.size W W' := by
  obtain ⟨v0, v1, d0, d1, rfl, a0, a1⟩ := h.args2 rfl
  obtain ⟨A, len, cap, zs, rfl, hlc, hcm, hcb, hrd, hzs⟩ := a0.ints Tryd.underlying22 Tryd.underlying3 (by kernel_rfl)
  obtain ⟨at', rfl, hn, hn'⟩ := a1.i64 Tryd.underlying3
  have hb8 : Tryd.prog.bytesOf 3 = 8 := by kernel_rfl
  rw [hb8] at hcb
  unfold maxLen at hcm
  have HZ := hid hrd.1
  clear h a0 a1 hzs hb8
  go_enter Tryd.func12, Tryd.ntmps12
  go_wp2_with fail
  go_loopw [5, 6] (fun m i wr => ∃ (k : Nat) (A2 : Option Addr) (c2 : Nat) (ms : List Int), k ≤ len ∧ i = .int .i64 ((len : Int) - 1 - k) ∧ m = .slice A2 k c2 ∧ Own wr W.heap.size 3 1 A2 k c2 (ms.map (Value.int .i64)) ∧ Below W.heap.size W wr) (fun _ i _ => (intOf i + 1).toNat)
  case atStart => exact ⟨0, none, 0, [], by omega, by go_num, rfl, Own.nil _ _ _ _, Below.refl _ _⟩
  case round =>
    obtain ⟨k, A2, c2, ms, hk, rfl, rfl, own, hb⟩ := hrel
    have hbs := hb.size
    by_cases hlt : k < len
    · obtain ⟨b, off, rfl, hbl, hc⟩ := hrd.at_ (i := len - 1 - k) (by omega)
      have f1 : wr.cell? ⟨b, off + (len - 1 - k), none⟩ = some (.int .i64 (at_ zs (len - 1 - k))) := ((Below.cells hb).1 _ _ hbl).trans hc
      generalize at_ zs (len - 1 - k) = x at f1
      clear hc
      obtain ⟨y, hy⟩ : ∃ y, IntKind.u64.wrap x = y := ⟨_, rfl⟩
      have u01 : 0 ≤ y ∧ y ≤ 18446744073709551615 := by rw [← hy, IntKind.wrap_u64]; omega
      obtain ⟨u0, u1⟩ := u01
      have y0 : 0 ≤ y % 10 ∧ y % 10 < 10 := by omega
      go_wp2_with (at_builtin; go_must (refine wpList_app _ rfl (.tmp 16) (.tmp 24) _ rfl W.heap.size 3 _ 1 8 Tryd.underlying22 int_info rfl (by omega) _ _ _ _ rfl (own.alloc _) _ _ _ _ [.int .i64 (y % 10)] rfl (Rd.new wr 1 [.int .i64 (y % 10)] 1 rfl 3) (cells_one .i64 [y % 10]) (by unfold maxLen; omega) (by omega) (by simp; omega) ?_; intro A3 c3 w3 own3 ch3 at3))
      go_roundw
      case rel =>
        refine ⟨k + 1, A3, c3, ms ++ [y % 10], by omega, by go_num, rfl, by rw [List.map_append]; exact own3, ?_⟩
        exact Below.ch (hb.alloc hbs _) ch3 (fun g hg => (own.blks g hg).1) (by simp; omega)
      case measure => simp [intOf]; omega
    · obtain rfl : k = len := by omega
      have hcp := own.cap
      have hM : RdI .i64 wr wr.heap.size A2 k ms := Rd.ints own.rd
      obtain ⟨P0, hP0⟩ : ∃ P, primOf zs = P := ⟨_, rfl⟩
      obtain ⟨P1, hP1⟩ : ∃ P, primOf ms = P := ⟨_, rfl⟩
      have HP0 := hid hP0
      have HP1 := hid hP1
      clear hP0 hP1
      have hA := hrd.below hb
      by_cases hpos : 0 < k
      · obtain ⟨g, rfl, hg1, hg2⟩ := own.form hpos
        obtain ⟨q, hq⟩ : ∃ q, IntKind.u64.wrap at' = q := ⟨_, rfl⟩
        have q01 : 0 ≤ q ∧ q ≤ 18446744073709551615 := by rw [← hq, IntKind.wrap_u64]; omega
        obtain ⟨q0, q1⟩ := q01
        have e0 := Int.emod_nonneg q (show (k : Int) ≠ 0 by omega)
        have e1 := Int.emod_lt_of_pos q (show 0 < (k : Int) by omega)
        obtain ⟨r, hr⟩ : ∃ r : Nat, q % (k : Int) = r := ⟨(q % k).toNat, by omega⟩
        have hrk : r < k := by omega
        clear e0 e1
        have hcr : ¬ c2 = r := by omega
        have hML := hM.1
        have HPT : Hid (primOf (ms.drop r ++ ms.take r) = P1) := by
          show _ = _
          rw [← HP1.out]
          unfold primOf
          rw [primFold_perm (List.perm_append_comm.trans (by rw [List.take_append_drop]))]
        go_wp2_with fail
        refine wp_region_stagesM [⟨0, 0, 68719476736⟩, ⟨0, 32, 137438953472⟩, ⟨0, 256, 274877906944⟩, ⟨6, 412316860416, 549755813888⟩, ⟨9, 618475290624, 1099511627776⟩, ⟨0, 32, 2199023255552⟩, ⟨0, 256, 4398046511104⟩, ⟨96, 6597069766656, 8796093022208⟩, ⟨144, 9895604649984, 17592186044416⟩, ⟨511, 17592186044416, 128⟩] [([1, 2, 3, 5, 6, 7], 0, [1, 2, 3, 5, 6, 7]), ([], 4, [5, 6, 7]), ([], 8, [])] [9] (by kernel_rfl) (by kernel_rfl) ?_
        refine wpStages_step ?_
        simp only [pick, List.map_cons, List.map_nil, List.getD_cons_zero, List.getD_cons_succ]
        repeat (go_big_quiet_step (fail))
        refine wpQuiet_nil ?_
        intro n0
        simp only [pick, List.map_cons, List.map_nil, List.getD_cons_zero]
        go_wp2
        have Ca : Ch [] wr ((wr.drewN n0).alloc (.cells #[] 3)) := ((Ch.refl _ _).drewN _).alloc _
        have owna : Own ((wr.drewN n0).alloc (.cells #[] 3)) wr.heap.size 3 1 (some ⟨wr.heap.size, 0, none⟩) 0 0 [] := Own.new (wr.drewN n0) wr.heap.size 3 1 [] 0 (by simp) (by unfold maxLen; omega) rfl
        have hMa : RdI .i64 ((wr.drewN n0).alloc (.cells #[] 3)) wr.heap.size (some ⟨g, 0, none⟩) k ms := hM.ch Ca (by omega) (by simp)
        refine stagePost_mk ?_ ?_
        · intro o ho
          simp only [pick, List.map_cons, List.map_nil, List.getD_cons_zero, List.getD_cons_succ, List.mem_cons, List.not_mem_nil, or_false] at ho
          rcases ho with rfl | rfl | rfl | rfl | rfl | rfl
          all_goals
            refine float_any ?_
            repeat (go_big_quiet_step (fail))
            refine wpQuiet_nil ?_
            rfl
        refine wpStages_step ?_
        simp only [pick, List.map_nil]
        refine wpQuiet_nil ?_
        intro n1
        simp only [pick, List.map_cons, List.map_nil, List.getD_cons_succ, List.getD_cons_zero]
        go_wp2_with (at_builtin; go_must (refine wpList_app _ rfl (.tmp 36) (.tmp 39) _ rfl wr.heap.size 3 _ 1 8 Tryd.underlying22 int_info rfl (by omega) _ _ _ _ rfl (owna.drewN n1) _ _ _ _ _ rfl ((((hMa.dropAt r hrk).heap rfl).rd)) (cells_one _ _) (by unfold maxLen; omega) (by omega) (by simp) ?_; intro A3 c3 w3 own3 ch3 at3))
        simp only [Nat.zero_add, List.nil_append] at own3
        have cb : Ch [] wr w3 := (Ca.drewN n1).step ch3 (by simp [blkOf])
        have hMb : RdI .i64 w3 wr.heap.size (some ⟨g, 0, none⟩) k ms := hM.ch cb (by omega) (by simp)
        have hz3 := cb.size
        refine stagePost_mk ?_ ?_
        · intro o ho
          simp only [pick, List.map_cons, List.map_nil, List.getD_cons_zero, List.getD_cons_succ, List.mem_cons, List.not_mem_nil, or_false] at ho
          rcases ho with rfl | rfl | rfl
          all_goals
            refine float_any ?_
            repeat (go_big_quiet_step (fail))
            refine wpQuiet_nil ?_
            rfl
        refine wpStages_step ?_
        simp only [pick, List.map_nil]
        refine wpQuiet_nil ?_
        intro n2
        simp only [pick, List.map_cons, List.map_nil, List.getD_cons_succ, List.getD_cons_zero]
        go_wp2_with (at_builtin; go_must (refine wpList_app _ rfl (.tmp 40) (.tmp 43) _ rfl wr.heap.size 3 _ 1 8 Tryd.underlying22 int_info rfl (by omega) _ _ _ _ rfl (own3.drewN n2) _ _ _ _ _ rfl ((((hMb.takeAt r (by omega)).heap rfl).rd)) (cells_one _ _) (by unfold maxLen; omega) (by omega) (by simp; omega) ?_; intro A4 c4 w4 own4 ch4 at4))
        rw [← List.map_append] at own4
        have cc : Ch [] wr w4 := (cb.drewN n2).step ch4 (fun b hb4 => .inr (own3.blks b hb4).1)
        have hz4 := cc.size
        have hT4 : RdI .i64 w4 w4.heap.size A4 (k - r + r) (ms.drop r ++ ms.take r) := Rd.ints own4.rd
        have hM4 : RdI .i64 w4 wr.heap.size (some ⟨g, 0, none⟩) k ms := hM.ch cc (by omega) (by simp)
        have hb4 := Below.ch hb cc (by simp) hbs
        have hA4 := hrd.below hb4
        refine stagePost_mk (by simp [pick]) ?_
        refine wpStages_last ?_
        simp only [pick, List.map_cons, List.map_nil, List.getD_cons_succ, List.getD_cons_zero]
        repeat (go_big_quiet_step (fail))
        refine wpQuiet_nil ?_
        intro n3
        go_wp2_with (first
          | (go_at_call 31; (with_reducible refine (rsnAwake _).mono ?_); rintro e w5 ⟨rfl, hb5⟩; have hb6 : Below w4.heap.size w4 w5 := (((Ch.refl [] w4).drewN n3).nil_below).trans hb5; have hA5 := (hA4.more (show W.heap.size ≤ w4.heap.size by have := hb4.size; omega)).below hb6; have hM5 := (hM4.more (show wr.heap.size ≤ w4.heap.size by omega)).below hb6; have hT5 := hT4.below hb6)
          | (go_at_call 38; with_reducible refine (rsnPrimaryAs _ _ _ _ zs _ hA5 (by omega) P0 HP0.out).mono ?_; rintro e w' ⟨rfl, rfl⟩)
          | (go_at_call 38; with_reducible refine (rsnPrimaryAs _ _ _ _ ms _ hM5 (by omega) P1 HP1.out).mono ?_; rintro e w' ⟨rfl, rfl⟩)
          | (go_at_call 38; with_reducible refine (rsnPrimaryAs _ _ _ _ _ _ hT5 (by omega) P1 HPT.out).mono ?_; rintro e w' ⟨rfl, rfl⟩)
          | (go_at_call 39; with_reducible refine (refPrimaryAs _ _ _ _ zs _ hA5 (by omega) P0 HP0.out).mono ?_; rintro e w' ⟨rfl, rfl⟩)
          | (go_at_call 39; with_reducible refine (refPrimaryAs _ _ _ _ ms _ hM5 (by omega) P1 HP1.out).mono ?_; rintro e w' ⟨rfl, rfl⟩))
        go_ret
        exact ⟨rfl, hb4.trans (hb6.mono (by have := hb4.size; omega))⟩
      · obtain rfl : k = 0 := by omega
        have hm0 : ms = [] := List.eq_nil_of_length_eq_zero hM.1
        have HPN : Hid (primOf [] = P1) := by show _ = _; rw [← HP1.out, hm0]
        go_wp2_with (first
          | (go_at_call 31; (with_reducible refine (rsnAwake _).mono ?_); rintro e w5 ⟨rfl, hb5⟩; have hA5 := (hA.more (show W.heap.size ≤ wr.heap.size by omega)).below hb5)
          | (go_at_call 38; with_reducible refine (rsnPrimaryAs _ _ _ _ zs _ hA5 (by omega) P0 HP0.out).mono ?_; rintro e w' ⟨rfl, rfl⟩)
          | (go_at_call 38; with_reducible refine (rsnPrimaryAs _ _ _ _ [] 0 (RdI.nil _ _ _ _) (by omega) P1 HPN.out).mono ?_; rintro e w' ⟨rfl, rfl⟩)
          | (go_at_call 39; with_reducible refine (refPrimaryAs _ _ _ _ zs _ hA5 (by omega) P0 HP0.out).mono ?_; rintro e w' ⟨rfl, rfl⟩)
          | (go_at_call 39; with_reducible refine (refPrimaryAs _ _ _ _ [] 0 (RdI.nil _ _ _ _) (by omega) P1 HPN.out).mono ?_; rintro e w' ⟨rfl, rfl⟩))
        go_ret
        exact ⟨rfl, hb.trans (hb5.mono hbs)⟩
end Go.Proofs.YtidfigehahfpeaaDoor
