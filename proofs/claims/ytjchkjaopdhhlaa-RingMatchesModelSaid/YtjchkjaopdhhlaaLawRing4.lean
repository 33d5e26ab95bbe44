/- The walk of RingMatchesModel. -/
import Derived.Test.YtjchkjaopdhhlaaLawRing3
import Derived.Test.YtjchkjaopdhhlaaArgs
import Derived.Test.YtjchkjaopdhhlaaRingI2
import Derived.Test.YtjchkjaopdhhlaaMinMax
import Derived.Test.YtjchkjaopdhhlaaStages2
namespace Go.Proofs.Ytjchkjaopdhhlaa
open Go.ChangeShapes Go.WideShapes Go.ChangeAt Go.RowKit

/-- The cells of an Op of layer 5, in block b at off: what they hold. -/
structure RingOp (W : World) (b off : Nat) where
  kind : Int
  n : Int
  A : Option Addr
  len : Nat
  cap : Nat
  ys : List Int

theorem ringOp_three : Try.prog.cellsOf 60 = 3 := by kernel_rfl
theorem ringOp_cells {H : Type} {enc : TypeId × Value → H} {W : World} {c : List Value} (h : Cl enc Try.prog W 60 c) :
    ∃ kd n A len cap ys, c = [.int .i64 kd, .int .i64 n, .slice A len cap] ∧ (-9223372036854775808 ≤ kd ∧ kd ≤ 9223372036854775807) ∧ (-9223372036854775808 ≤ n ∧ n ≤ 9223372036854775807) ∧
      len ≤ cap ∧ cap ≤ maxLen ∧ cap * 8 ≤ 140737488351232 ∧ RdI .i64 W W.heap.size A len ys := by
  have e1 : Try.prog.cellsOf 3 = 1 := by kernel_rfl
  have e2 : Try.prog.cellsOf 58 = 1 := by kernel_rfl
  have e3 : Try.prog.cellsOf 60 = 3 := by kernel_rfl
  have e8 : Try.prog.bytesOf 3 = 8 := by kernel_rfl
  have hl := (h.struct Try.underlying60).1
  rw [e3] at hl
  have h0 := h.field Try.underlying60 0 3 0 1 rfl e1
  have h1 := h.field Try.underlying60 1 3 1 1 rfl e1
  have h2 := h.field Try.underlying60 2 58 2 1 rfl e2
  obtain ⟨kd, k0, k1, k2⟩ := h0.i64 Try.underlying3
  obtain ⟨n, n0, n1, n2⟩ := h1.i64 Try.underlying3
  obtain ⟨A, len, cap, ys, s0, s1, s2, s3, s4, _⟩ := h2.ints Try.underlying58 Try.underlying3 e1
  rw [e8] at s3
  refine ⟨kd, n, A, len, cap, ys, ?_, ⟨k1, k2⟩, ⟨n1, n2⟩, s1, s2, s3, s4⟩
  match c, hl with
  | [x, y, z], _ => simp at k0 n0 s0; rw [k0, n0, s0]

theorem ringIFreeAs (w : World) (g b c : Nat) (xs : List Int) (h : ringIAt w g b c xs) (r : Int) (hr : ((c - xs.length : Nat) : Int) = r) :
    Calls Try.prog 46 #[.pointer (some ⟨g, 0, none⟩)] w fun e w' => e = .returned (.int .i64 r) ∧ ∃ n, w' = w.drewN n := by
  subst hr; exact ringIFree w g b c xs h
theorem ints_one (k : IntKind) (zs : List Int) : ∀ u ∈ zs.map (Value.int k), u.oneCell' = true := by
  intro u hu
  obtain ⟨z, _, rfl⟩ := List.mem_map.1 hu
  rfl
theorem RdI.rest {k : IntKind} {w : World} {B n m : Nat} {A : Option Addr} {xs : List Int} (h : RdI k w B A n xs) (hm : m ≤ n) : RdI k w B (A.map (·.add m)) (n - m) (xs.drop m) :=
  ⟨by simp [h.1], fun hp => by
    obtain ⟨b, off, e, hB, hc⟩ := h.2 (by omega)
    refine ⟨b, off + m, ?_, hB, fun i hi => ?_⟩
    · rw [e]; simp [Addr.add]
      try (split <;> simp_all)
    · have := hc (m + i) (by omega)
      rw [← Nat.add_assoc] at this
      rw [this]
      simp [Go.Proofs.Ytjchkjaopdhhlaa.at_, List.getD]⟩

theorem RdI.restIf {k : IntKind} {w : World} {B n m c : Nat} {A : Option Addr} {xs : List Int} (h : RdI k w B A n xs) (hm : m ≤ n) (hc : n ≤ c) : RdI k w B (if c = m then A else A.map (·.add m)) (n - m) (xs.drop m) := by
  by_cases e : c = m
  · rw [if_pos e]
    have e0 : n - m = 0 := by omega
    have e1 : xs.drop m = [] := List.drop_eq_nil_iff.2 (by rw [h.1]; omega)
    rw [e0, e1]; exact RdI.nil _ _ _ _
  · rw [if_neg e]; exact h.rest hm
theorem blkOf_restIf {m c : Nat} {A : Option Addr} : ∀ g ∈ blkOf (if c = m then A else A.map (·.add m)), g ∈ blkOf A := by
  intro g hg
  by_cases e : c = m
  · rwa [if_pos e] at hg
  · rw [if_neg e] at hg
    cases A with
    | none => simp [blkOf] at hg
    | some a =>
      have : (Addr.add a m).block = a.block := by unfold Addr.add; split <;> rfl
      simpa [blkOf, this] using hg

set_option maxRecDepth 100000 in
set_option maxHeartbeats 1000000 in
theorem ringMatchesModel_came {H : Type} {enc : TypeId × Value → H} (W : World) (args : Array Value) (ds : List (DataW H)) (h : Came enc Try.prog Try.f12 W args ds) :
    Calls Try.prog 12 args W fun e W' => e = .returned (.bool true) ∧ Below W.heap.size W W' := by
  obtain ⟨v0, v1, d0, d1, rfl, a0, a1⟩ := h.args2 rfl
  obtain ⟨n, rfl, hn, hn'⟩ := a0.i64 Try.underlying3
  obtain ⟨A, len, cap, rfl, hlc, hcm, _, hel⟩ := a1.slice Try.underlying54 (by rw [ringOp_three]; omega)
  have HEL := hid hel
  unfold maxLen at hcm
  clear h a0 a1 hel
  obtain ⟨p0, p1⟩ := modI_rng n 12 (by omega)
  obtain ⟨c, hc⟩ := Int.eq_ofNat_of_zero_le (show 0 ≤ modI n 12 by omega)
  have HC := hid hc
  have hc0 : c < 12 := by omega
  clear p0 p1 hc
  go_enter Try.func12, Try.ntmps12
  go_wp2_with fail
  refine (genModAs _ _ c HC.out _ (by omega) (by omega)).mono ?_
  rintro e w' ⟨rfl, rfl⟩
  go_wp2_with fail
  refine (ringINew_as _ (1 + c) (by omega) _ (by omega) (by omega)).mono ?_
  rintro e w1 ⟨rfl, R1, C1⟩
  have hz1 := C1.size
  have hb1 := C1.nil_below
  go_wp2_with fail
  go_loopw [8, 9] (fun x i wr => ∃ (k : Nat) (X : Option Addr) (cx : Nat) (xs : List Int), k ≤ 90 ∧ i = .int .i64 k ∧ x = .slice X xs.length cx ∧ xs.length ≤ cx ∧ cx ≤ 9223372036854775807 ∧ xs.length ≤ 1 + c ∧ ringIAt wr (W.heap.size + 1) W.heap.size (1 + c) xs ∧ RdI .i64 wr wr.heap.size X xs.length xs ∧ (∀ g ∈ blkOf X, W.heap.size + 1 < g) ∧ Below W.heap.size W wr) (fun _ i _ => 90 - (intOf i).toNat)
  case atStart => exact ⟨0, none, 0, [], by omega, rfl, rfl, by simp, by omega, by simp, R1, RdI.nil _ _ _ _, by simp [blkOf], hb1⟩
  case round =>
    clear R1 C1 hb1 hz1
    obtain ⟨k, X, cx, xs, hk, rfl, rfl, hcx, hcx', hxl, hR, hX, hXb, hb⟩ := hrel
    have hRl := hR.lt
    by_cases hlt : k < len ∧ k < 90
    · obtain ⟨hlt1, hlt2⟩ := hlt
      obtain ⟨b, off, rfl, hbl, hcells⟩ := HEL.out (by omega)
      obtain ⟨cs, hcl, hcell, hcc⟩ := hcells k hlt1
      obtain ⟨kd, on, A', len', cap', ys, rfl, hkd, hon, hl1, hl2, hl3, hys⟩ := ringOp_cells hcc
      rw [ringOp_three] at hcell
      have f0 : wr.cell? ⟨b, off + k * 3, none⟩ = some (.int .i64 kd) := ((Below.cells hb).1 _ _ hbl).trans (hcell 0 (by omega))
      have f1 : wr.cell? ⟨b, off + k * 3 + 1, none⟩ = some (.int .i64 on) := ((Below.cells hb).1 _ _ hbl).trans (hcell 1 (by omega))
      have f2 : wr.cell? ⟨b, off + k * 3 + 2, none⟩ = some (.slice A' len' cap') := ((Below.cells hb).1 _ _ hbl).trans (hcell 2 (by omega))
      have HLF := hid hl2
      clear hcc hcells hcell hcl hl2
      obtain ⟨d0, d1⟩ := modI_rng kd 6 (by omega)
      generalize hd : modI kd 6 = d at d0 d1
      have HD := hid hd
      clear hd
      have hb0 : Below W.heap.size W (wr.alloc (.cells #[.int .i64 kd, .int .i64 on, .slice A' len' cap'] 60)) := hb.alloc hb.size _
      have hB0 : Blk (wr.alloc (.cells #[.int .i64 kd, .int .i64 on, .slice A' len' cap'] 60)) wr.heap.size 60 [.int .i64 kd, .int .i64 on, .slice A' len' cap'] := Blk.new wr _ _
      have hC0 : Ch [] wr (wr.alloc (.cells #[.int .i64 kd, .int .i64 on, .slice A' len' cap'] 60)) := (Ch.refl _ _).alloc _
      have hR0 := hR.ch hC0 (by simp) (by simp)
      have hX0 := (hX.ch hC0 (Nat.le_refl _) (by simp))
      obtain ⟨m, hm⟩ : ∃ m : Nat, min (max on 0) (xs.length : Int) = m := ⟨(min (max on 0) (xs.length : Int)).toNat, by omega⟩
      have hm1 : m ≤ xs.length := by omega
      have hm2 : min on.toNat xs.length = m := by omega
      have HM := hid hm
      have HM2 := hid hm2
      clear hm hm2
      by_cases k3 : d < 3
      · obtain ⟨T, hT⟩ : ∃ T : Nat, min (len' : Int) (1 + (c : Int) - xs.length) = T := ⟨(min (len' : Int) (1 + (c : Int) - xs.length)).toNat, by omega⟩
        have hT1 : T ≤ len' := by omega
        have hT2 : xs.length + T ≤ 1 + c := by omega
        have HT := hid hT
        have HYL := hid hys.1
        have HP : Hid (((min ys.length (1 + c - xs.length) : Nat) : Int) = (T : Nat)) := by show _ = _; rw [HYL.out]; omega
        have HZ : Hid (xs ++ ys.take (1 + c - xs.length) = xs ++ ys.take T) := by
          show _ = _
          rcases Nat.le_total (1 + c - xs.length) len' with h1 | h1
          · rw [show 1 + c - xs.length = T by omega]
          · rw [List.take_of_length_le (by rw [HYL.out]; omega), List.take_of_length_le (by rw [HYL.out]; omega)]
        clear hT
        go_wp2_with (first
          | (refine wpList_max rfl _ _ _ rfl _ _ _ _ _ rfl rfl rfl ?_)
          | (refine wpList_min rfl _ _ _ rfl _ _ _ _ _ rfl rfl HM.out ?_)
          | (refine wpList_min rfl _ _ _ rfl _ _ _ _ _ rfl rfl HT.out ?_)
          | (go_at_call 31; with_reducible refine (genModAs _ _ d HD.out _ ?_ ?_).mono ?_; omega; omega; rintro e w' ⟨rfl, rfl⟩)
          | (go_at_call 41; go_must ((with_reducible refine (ringIPushL _ _ _ (1 + c) xs hR0 A' len' cap' ys W.heap.size (hys.below hb0) (by omega) (by omega) hl1 (by have := HLF.out; unfold maxLen at this; omega) _ _ HP.out HZ.out).mono ?_); rintro e w2 ⟨rfl, R2, C2⟩; have c2 : w2.cell? ⟨wr.heap.size, 2, none⟩ = some (.slice A' len' cap') := (hB0.ch C2 (by simp; omega)).cell 2)))
        have hz2 := C2.size
        simp only [World.size_alloc] at hz2
        have b2 := Below.ch hb0 C2 (by simp) (by simp; omega)
        have B2 := hB0.ch C2 (by simp; omega)
        have hX2 := hX0.ch C2 (by simp) (fun g hg => by have := hXb g hg; simp; omega)
        refine wp_region_stagesE [([1, 3, 4, 5, 6], 0, [1, 3, 4, 5, 6]), ([], 2, [3, 4, 5, 6]), ([], 7, [])] [8] (by kernel_rfl) (by kernel_rfl) ?_
        refine wpStages_step ?_
        simp only [pick, List.map_cons, List.map_nil, List.getD_cons_zero, List.getD_cons_succ]
        repeat (go_big_quiet_step (fail))
        refine wpQuiet_nil ?_
        intro n0
        simp only [pick, List.map_cons, List.map_nil, List.getD_cons_zero]
        go_wp2
        have Ca : Ch [] w2 ((w2.drewN n0).alloc (.cells #[] 3)) := ((Ch.refl _ _).drewN _).alloc _
        have ca2 : ((w2.drewN n0).alloc (.cells #[] 3)).cell? ⟨wr.heap.size, 2, none⟩ = some (.slice A' len' cap') := (B2.ch Ca (by simp)).cell 2
        have owna : Own ((w2.drewN n0).alloc (.cells #[] 3)) w2.heap.size 3 1 (some ⟨w2.heap.size, 0, none⟩) 0 0 [] := Own.new (w2.drewN n0) w2.heap.size 3 1 [] 0 (by simp) (by unfold maxLen; omega) rfl
        have hXa := hX2.ch Ca (by omega) (by simp)
        refine stagePost_mk ?_ ?_
        · intro o ho
          simp only [pick, List.map_cons, List.map_nil, List.getD_cons_zero, List.getD_cons_succ, List.mem_cons, List.not_mem_nil, or_false] at ho
          rcases ho with rfl | rfl | rfl | rfl | rfl
          all_goals
            refine float_any ?_
            repeat (go_big_quiet_step (fail))
            refine wpQuiet_nil ?_
            rfl
        refine wpStages_step ?_
        simp only [pick, List.map_nil]
        refine wpQuiet_nil ?_
        intro n1
        simp only [pick, List.map_cons, List.map_nil, List.getD_cons_succ, List.getD_cons_zero]
        go_wp2_with (at_builtin; go_must (refine wpList_app _ rfl (.tmp 77) (.tmp 78) _ rfl w2.heap.size 3 _ 1 8 Try.underlying58 ringI_info rfl (by omega) _ _ _ _ rfl (owna.drewN n1) _ _ _ _ _ rfl ((hXa.heap rfl).rd) (by simp [Value.oneCell']) (by unfold maxLen; omega) (by omega) (by simp) ?_; intro A2 c2' w3 own2 ch2 at2))
        simp only [Nat.zero_add, List.nil_append] at own2
        have cb : Ch [] w2 w3 := (Ca.drewN n1).step ch2 (by simp [blkOf])
        have cb2 : w3.cell? ⟨wr.heap.size, 2, none⟩ = some (.slice A' len' cap') := (B2.ch cb (by simp)).cell 2
        have b3 := Below.ch b2 cb (by simp) (by omega)
        have hz3 := cb.size
        refine stagePost_mk ?_ ?_
        · intro o ho
          simp only [pick, List.map_cons, List.map_nil, List.getD_cons_zero, List.getD_cons_succ, List.mem_cons, List.not_mem_nil, or_false] at ho
          rcases ho with rfl | rfl | rfl | rfl
          all_goals
            refine float_any ?_
            repeat (go_big_quiet_step (fail))
            refine wpQuiet_nil ?_
            rfl
        refine wpStages_step ?_
        simp only [pick, List.map_nil]
        refine wpQuiet_nil ?_
        intro n2
        simp only [pick, List.map_cons, List.map_nil, List.getD_cons_succ, List.getD_cons_zero]
        go_wp2_with (at_builtin; go_must (refine wpList_app _ rfl (.tmp 79) (.tmp 83) _ rfl w2.heap.size 3 _ 1 8 Try.underlying58 ringI_info rfl (by omega) _ _ _ _ rfl (own2.drewN n2) _ _ _ _ _ rfl ((((hys.take T hT1).below b3).heap rfl).rd) (ints_one _ _) (by unfold maxLen; omega) (by omega) (by simp; omega) ?_; intro A3 c3 w4 own3 ch3 at3))
        have cc : Ch [] w2 w4 := (cb.drewN n2).step ch3 (fun g hg => by have := own2.blks g hg; exact .inr this.1)
        have R4 := R2.ch cc (by simp) (by simp)
        have b4 := Below.ch b2 cc (by simp) (by omega)
        have hz4 := cc.size
        have hc3 := own3.cap
        unfold maxLen at hc3
        have HNL : Hid ((xs ++ ys.take T).length = xs.length + T) := by show _ = _; rw [List.length_append, List.length_take, HYL.out]; omega
        have HNR : Hid (RdI .i64 w4 w4.heap.size A3 (xs ++ ys.take T).length (xs ++ ys.take T)) := by
          have := own3.rd
          rw [← List.map_append, ← HNL.out] at this
          exact Rd.ints this
        refine stagePost_mk (by simp [pick]) ?_
        refine wpStages_last ?_
        simp only [pick, List.map_cons, List.map_nil, List.getD_cons_succ, List.getD_cons_zero]
        repeat (go_big_quiet_step (fail))
        refine wpQuiet_nil ?_
        intro n3
        go_wp2_with (first
          | (go_at_call 45; go_must ((with_reducible refine (ringILenAs _ _ W.heap.size (1 + c) (xs ++ ys.take T) ?_ ((xs.length : Int) + T) (by rw [HNL.out]; omega)).mono ?_); exact R4.heap rfl; rintro e w' ⟨rfl, rfl⟩))
          | (go_at_call 46; go_must ((with_reducible refine (ringIFreeAs _ _ W.heap.size (1 + c) (xs ++ ys.take T) ?_ (1 + (c : Int) - ((xs.length : Int) + T)) (by rw [HNL.out]; omega)).mono ?_); exact R4.heap rfl; rintro e w' ⟨rfl, nf, rfl⟩))
          | (go_at_call 47; go_must ((with_reducible refine (ringICap _ _ W.heap.size (1 + c) (xs ++ ys.take T) ?_).mono ?_); exact R4.heap rfl; rintro e w' ⟨rfl, rfl⟩)))
        go_roundw
        case rel => exact ⟨k + 1, A3, c3, xs ++ ys.take T, by omega, by go_num, by rw [HNL.out], by rw [HNL.out]; exact hc3.1, by omega, by rw [HNL.out]; omega, R4.heap rfl, HNR.out.heap rfl, fun g hg => by have := (own3.blks g hg).1; omega, Below.drewN b4 _⟩
        case measure => simp [intOf]; omega
      · have hX0' := hX0
        by_cases k5 : d < 5
        · skip
          have c1 : ((wr.alloc (.cells #[.int .i64 kd, .int .i64 on, .slice A' len' cap'] 60))).cell? ⟨wr.heap.size, 1, none⟩ = some (.int .i64 on) := hB0.cell 1
          go_wp2_with (first
            | (refine wpList_max rfl _ _ _ rfl _ _ _ _ _ rfl rfl rfl ?_)
            | (refine wpList_min rfl _ _ _ rfl _ _ _ _ _ rfl rfl HM.out ?_)
            | (go_at_call 31; with_reducible refine (genModAs _ _ d HD.out _ ?_ ?_).mono ?_; omega; omega; rintro e w' ⟨rfl, rfl⟩))
          refine wp_region_stagesE [([0, 1, 2, 4, 5, 6], 3, [4, 5, 6])] [7, 8] (by kernel_rfl) (by kernel_rfl) ?_
          refine wpStages_step ?_
          simp only [pick, List.map_cons, List.map_nil, List.getD_cons_zero, List.getD_cons_succ]
          repeat (go_big_quiet_step (fail))
          refine wpQuiet_nil ?_
          intro n0
          simp only [pick, List.map_cons, List.map_nil, List.getD_cons_zero, List.getD_cons_succ]
          go_wp2_with (go_at_call 43; go_must ((with_reducible refine (ringIPopAs _ _ W.heap.size (1 + c) xs ?_ _ m HM2.out _ _ rfl rfl).mono ?_); exact hR0.heap rfl; rintro e w2 ⟨A4, cc4, rfl, own4, R4, C4⟩))
          have hX2 : RdI .i64 w2 wr.heap.size X xs.length xs := hX0.ch (((Ch.refl _ _).drewN n0).trans C4) (by simp) (fun g hg => by have := hXb g hg; simp; omega)
          have b2 := Below.ch (Below.drewN hb0 n0) C4 (by simp) (by simp; omega)
          have r4 : RdI .i64 w2 w2.heap.size A4 m (xs.take m) := Rd.ints own4.rd
          have hcc4 := own4.cap
          unfold maxLen at hcc4
          have hz2 := C4.size
          simp only [World.heap_drewN, World.size_alloc] at hz2
          refine stagePost_mk ?_ ?_
          · intro o ho
            simp only [pick, List.map_cons, List.map_nil, List.getD_cons_zero, List.getD_cons_succ, List.mem_cons, List.not_mem_nil, or_false] at ho
            rcases ho with rfl | rfl | rfl
            all_goals
              refine float_any ?_
              repeat (go_big_quiet_step (fail))
              refine wpQuiet_nil ?_
              rfl
          refine wpStages_last ?_
          simp only [pick, List.map_cons, List.map_nil, List.getD_cons_succ, List.getD_cons_zero]
          repeat (go_big_quiet_step ((go_at_call 42; exact Calls.quiet_of (eqISame _ A4 X m cc4 m cx (xs.take m) w2.heap.size wr.heap.size (r4.heap rfl) ((hX2.take m hm1).heap rfl) (by omega) (by omega)))))
          refine wpQuiet_nil ?_
          intro n1
          go_wp2_with (first
            | (go_at_call 45; go_must ((with_reducible refine (ringILenAs _ _ W.heap.size (1 + c) (xs.drop m) ?_ ((xs.length : Int) - m) (by simp; omega)).mono ?_); exact R4.heap rfl; rintro e w' ⟨rfl, rfl⟩))
            | (go_at_call 46; go_must ((with_reducible refine (ringIFreeAs _ _ W.heap.size (1 + c) (xs.drop m) ?_ (1 + (c : Int) - ((xs.length : Int) - m)) (by simp; omega)).mono ?_); exact R4.heap rfl; rintro e w' ⟨rfl, nf, rfl⟩))
            | (go_at_call 47; go_must ((with_reducible refine (ringICap _ _ W.heap.size (1 + c) (xs.drop m) ?_).mono ?_); exact R4.heap rfl; rintro e w' ⟨rfl, rfl⟩)))
          go_roundw
          case rel =>
            refine ⟨k + 1, _, _, xs.drop m, by omega, by go_num, by rw [List.length_drop], by rw [List.length_drop]; omega, by omega, by rw [List.length_drop]; omega, R4.heap rfl, ?_, fun g hg => hXb g (blkOf_restIf g hg), Below.drewN b2 _⟩
            rw [List.length_drop]
            exact ((hX2.restIf hm1 hcx).more (show wr.heap.size ≤ w2.heap.size by omega)).heap rfl
          case measure => simp [intOf]; omega
        · skip
          have c1 : ((wr.alloc (.cells #[.int .i64 kd, .int .i64 on, .slice A' len' cap'] 60))).cell? ⟨wr.heap.size, 1, none⟩ = some (.int .i64 on) := hB0.cell 1
          go_wp2_with (first
            | (refine wpList_max rfl _ _ _ rfl _ _ _ _ _ rfl rfl rfl ?_)
            | (refine wpList_min rfl _ _ _ rfl _ _ _ _ _ rfl rfl HM.out ?_)
            | (go_at_call 31; with_reducible refine (genModAs _ _ d HD.out _ ?_ ?_).mono ?_; omega; omega; rintro e w' ⟨rfl, rfl⟩))
          refine wp_region_stagesE [([0, 1, 2, 4, 5, 6], 3, [4, 5, 6])] [7, 8] (by kernel_rfl) (by kernel_rfl) ?_
          refine wpStages_step ?_
          simp only [pick, List.map_cons, List.map_nil, List.getD_cons_zero, List.getD_cons_succ]
          repeat (go_big_quiet_step (fail))
          refine wpQuiet_nil ?_
          intro n0
          simp only [pick, List.map_cons, List.map_nil, List.getD_cons_zero, List.getD_cons_succ]
          go_wp2_with (go_at_call 44; go_must ((with_reducible refine (ringIPeekAs _ _ W.heap.size (1 + c) xs ?_ _ m HM2.out _ rfl).mono ?_); exact hR0.heap rfl; rintro e w2 ⟨A4, cc4, rfl, own4, C4⟩))
          have R4 : ringIAt w2 (W.heap.size + 1) W.heap.size (1 + c) xs := hR0.ch (((Ch.refl _ _).drewN n0).trans C4) (by simp) (by simp)
          have hX2 : RdI .i64 w2 wr.heap.size X xs.length xs := hX0.ch (((Ch.refl _ _).drewN n0).trans C4) (by simp) (by simp)
          have b2 := Below.ch (Below.drewN hb0 n0) C4 (by simp) (by simp; omega)
          have r4 : RdI .i64 w2 w2.heap.size A4 m (xs.take m) := Rd.ints own4.rd
          have hcc4 := own4.cap
          unfold maxLen at hcc4
          have hz2 := C4.size
          simp only [World.heap_drewN, World.size_alloc] at hz2
          refine stagePost_mk ?_ ?_
          · intro o ho
            simp only [pick, List.map_cons, List.map_nil, List.getD_cons_zero, List.getD_cons_succ, List.mem_cons, List.not_mem_nil, or_false] at ho
            rcases ho with rfl | rfl | rfl
            all_goals
              refine float_any ?_
              repeat (go_big_quiet_step (fail))
              refine wpQuiet_nil ?_
              rfl
          refine wpStages_last ?_
          simp only [pick, List.map_cons, List.map_nil, List.getD_cons_succ, List.getD_cons_zero]
          repeat (go_big_quiet_step ((go_at_call 42; exact Calls.quiet_of (eqISame _ A4 X m cc4 m cx (xs.take m) w2.heap.size wr.heap.size (r4.heap rfl) ((hX2.take m hm1).heap rfl) (by omega) (by omega)))))
          refine wpQuiet_nil ?_
          intro n1
          go_wp2_with (first
            | (go_at_call 45; go_must ((with_reducible refine (ringILenAs _ _ W.heap.size (1 + c) (xs) ?_ (xs.length : Int) rfl).mono ?_); exact R4.heap rfl; rintro e w' ⟨rfl, rfl⟩))
            | (go_at_call 46; go_must ((with_reducible refine (ringIFreeAs _ _ W.heap.size (1 + c) (xs) ?_ (1 + (c : Int) - (xs.length : Int)) (by omega)).mono ?_); exact R4.heap rfl; rintro e w' ⟨rfl, nf, rfl⟩))
            | (go_at_call 47; go_must ((with_reducible refine (ringICap _ _ W.heap.size (1 + c) (xs) ?_).mono ?_); exact R4.heap rfl; rintro e w' ⟨rfl, rfl⟩)))
          go_roundw
          case rel => exact ⟨k + 1, X, cx, xs, by omega, by go_num, rfl, hcx, hcx', hxl, R4.heap rfl, (hX2.more (show wr.heap.size ≤ w2.heap.size by omega)).heap rfl, hXb, Below.drewN b2 _⟩
          case measure => simp [intOf]; omega
    · have HPK : Hid (min (1 + (c : Int)).toNat xs.length = xs.length) := by show _ = _; omega
      have HTK : Hid (xs.take xs.length = xs) := List.take_length
      have hor : len ≤ k ∨ k < len ∧ k = 90 := by omega
      rcases hor with h1 | ⟨h1, rfl⟩
      all_goals
        go_wp2_with (first
          | (go_at_call 36; with_reducible refine (ringAwake _).mono ?_; rintro e w0 ⟨rfl, hb0⟩; have R0 := hR.below hb0 hRl.1 hRl.2.1; have X0 := hX.below hb0; have bb := hb.trans (hb0.mono hb.size); have hz0 := hb0.size)
          | (go_at_call 44; go_must ((with_reducible refine (ringIPeekAs _ _ W.heap.size (1 + c) xs ?_ _ xs.length HPK.out _ HTK.out).mono ?_); exact R0; rintro e w2 ⟨A4, cc4, rfl, own4, C4⟩; have r4 : RdI .i64 w2 w2.heap.size A4 xs.length xs := Rd.ints own4.rd; have hcc4 := own4.cap; unfold maxLen at hcc4))
          | (go_at_call 42; go_must ((with_reducible refine (eqISame _ _ _ _ _ _ _ xs _ _ r4 (X0.ch C4 hz0 (by simp)) (by omega) (by omega)).mono ?_); rintro e w' ⟨rfl, q4, rfl⟩)))
        go_ret
        exact ⟨rfl, Below.drewN (Below.ch bb C4 (by simp) (by have := hb.size; omega)) _⟩
end Go.Proofs.Ytjchkjaopdhhlaa
