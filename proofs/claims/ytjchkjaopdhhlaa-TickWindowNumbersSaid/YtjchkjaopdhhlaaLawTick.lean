/- The four statements about layer 1 (tick): for every input the law returns true and turns nothing that was there. -/
import Derived.Test.YtjchkjaopdhhlaaRows
import Derived.Test.YtjchkjaopdhhlaaTick
import Derived.Test.YtjchkjaopdhhlaaShell
import Derived.Test.YtjchkjaopdhhlaaMem
namespace Go.Proofs.Ytjchkjaopdhhlaa
open Go.ChangeShapes Go.WideShapes Go.ChangeAt Go.RowKit

theorem tickAwake (w : World) : Calls Try.prog 15 #[] w fun e w' => e = .returned (.bool true) ∧ Below w.heap.size w w' := by
  have e1 : addT 18446744073709551615 1 = 18446744073709551615 := by decide
  have e2 : minI (addT 5 10) (minL [12, 20]) = 12 := by decide
  have e3 : winT 25 10 = 2 := by decide
  have e4 : subT 9 4 = 5 := by decide
  have e5 : minL [] = 18446744073709551615 := by decide
  have hr : ∀ w : World, RdI .u64 (w.alloc (.cells #[.int .u64 12, .int .u64 20] 22)) (w.heap.size + 1) (some ⟨w.heap.size, 0, none⟩) 2 [12, 20] := fun w => RdI.new .u64 w [12, 20] 2 rfl 22
  have HR := hid hr
  clear hr
  go_enter Try.func15, Try.ntmps15
  go_wp2_with (first
    | (go_at_call 16; refine (tickAdd _ _ _ (by omega) (by omega) (by omega) (by omega)).mono ?_; rintro e w' ⟨rfl, rfl⟩)
    | (go_at_call 22; refine (tickDeadline _ _ _ _ _ _ _ _ (HR.out _) (by omega) (by omega) (by omega) (by omega) (by omega)).mono ?_; rintro e w' ⟨rfl, rfl⟩)
    | (go_at_call 24; refine (tickWindow _ _ _ (by omega) (by omega) (by omega) (by omega)).mono ?_; rintro e w' ⟨rfl, rfl⟩)
    | (go_at_call 18; refine (tickSub _ _ _ (by omega) (by omega) (by omega) (by omega)).mono ?_; rintro e w' ⟨rfl, rfl⟩)
    | (go_at_call 20; refine (tickMin _ _ _ _ _ _ (RdI.nil _ _ 0 _) (by omega)).mono ?_; rintro e w' ⟨rfl, rfl⟩))
  go_ret
  exact ⟨rfl, (Below.refl _ _).alloc (Nat.le_refl _) _⟩

theorem tickSaturates_came {H : Type} {enc : TypeId × Value → H} (W : World) (args : Array Value) (ds : List (DataW H)) (h : Came enc Try.prog Try.f3 W args ds) :
    Calls Try.prog 3 args W fun e W' => e = .returned (.bool true) ∧ Below W.heap.size W W' := by
  obtain ⟨v0, v1, d0, d1, rfl, a0, a1⟩ := h.args2 rfl
  obtain ⟨a, rfl, ha, ha'⟩ := a0.u64 Try.underlying22
  obtain ⟨b, rfl, hb, hb'⟩ := a1.u64 Try.underlying22
  have hr : ∀ w : World, RdI .u64 (w.alloc (.cells #[.int .u64 a, .int .u64 b] 22)) (w.heap.size + 1) (some ⟨w.heap.size, 0, none⟩) 2 [a, b] := fun w => RdI.new .u64 w [a, b] 2 rfl 22
  have HR := hid hr
  have hm : minL [a, b] = minI a b := by
    have : minI 18446744073709551615 a = a := by unfold minI; split <;> omega
    simp [minL, this]
  have HM := hid hm
  clear hr hm h a0 a1
  go_enter Try.func3, Try.ntmps3
  go_wp2_with (first
    | (go_at_call 15; refine (tickAwake _).mono ?_; rintro e w' ⟨rfl, hb1⟩)
    | (go_at_call 16; refine (tickAdd _ _ _ (by omega) (by omega) (by omega) (by omega)).mono ?_; rintro e w' ⟨rfl, rfl⟩)
    | (go_at_call 17; refine (refAdd _ _ _ (by omega) (by omega) (by omega) (by omega)).mono ?_; rintro e w' ⟨rfl, rfl⟩)
    | (go_at_call 18; refine (tickSub _ _ _ (by omega) (by omega) (by omega) (by omega)).mono ?_; rintro e w' ⟨rfl, rfl⟩)
    | (go_at_call 19; refine (refSub _ _ _ (by omega) (by omega) (by omega) (by omega)).mono ?_; rintro e w' ⟨rfl, rfl⟩)
    | (go_at_call 20; refine (tickMin _ _ _ _ _ _ (HR.out _) (by omega)).mono ?_; rintro e w' ⟨rfl, rfl⟩))
  all_goals go_ret
  all_goals exact ⟨ret_bool (by rw [HM.out, beq_iff_eq]; unfold minI; split <;> omega), hb1.alloc hb1.size _⟩

theorem tickMinAndDeadline_came {H : Type} {enc : TypeId × Value → H} (W : World) (args : Array Value) (ds : List (DataW H)) (h : Came enc Try.prog Try.f4 W args ds) :
    Calls Try.prog 4 args W fun e W' => e = .returned (.bool true) ∧ Below W.heap.size W W' := by
  obtain ⟨v0, v1, v2, d0, d1, d2, rfl, a0, a1, a2⟩ := h.args3 rfl
  obtain ⟨a, rfl, ha, ha'⟩ := a0.u64 Try.underlying22
  obtain ⟨b, rfl, hb, hb'⟩ := a1.u64 Try.underlying22
  obtain ⟨A, len, cap, zs, rfl, hl, hc, hsz, hrd, hwf⟩ := a2.ints Try.underlying27 Try.underlying22 (by kernel_rfl)
  unfold maxLen at hc
  clear h a0 a1 a2
  go_enter Try.func4, Try.ntmps4
  go_wp2_with (first
    | (go_at_call 15; refine (tickAwake _).mono ?_; rintro e w' ⟨rfl, hb1⟩)
    | (go_at_call 20; refine (tickMin _ _ _ _ _ _ (hrd.below hb1) (by omega)).mono ?_; rintro e w' ⟨rfl, rfl⟩)
    | (go_at_call 21; refine (refMin _ _ _ _ _ _ (hrd.below hb1) (by omega)).mono ?_; rintro e w' ⟨rfl, rfl⟩)
    | (go_at_call 22; refine (tickDeadline _ _ _ _ _ _ _ _ (hrd.below hb1) (by omega) (by omega) (by omega) (by omega) (by omega)).mono ?_; rintro e w' ⟨rfl, rfl⟩)
    | (go_at_call 23; refine (refDeadline _ _ _ _ _ _ _ _ (hrd.below hb1) (by omega) (by omega) (by omega) (by omega) (by omega)).mono ?_; rintro e w' ⟨rfl, rfl⟩))
  go_ret
  exact ⟨rfl, hb1⟩

theorem winT_mono (a b c : Int) (h : a ≤ b) (hc : 0 < c) : winT a c ≤ winT b c := by
  unfold winT
  rw [if_neg (by omega), if_neg (by omega)]
  exact Int.ediv_le_ediv hc h

theorem tickWindowNumbers_came {H : Type} {enc : TypeId × Value → H} (W : World) (args : Array Value) (ds : List (DataW H)) (h : Came enc Try.prog Try.f6 W args ds) :
    Calls Try.prog 6 args W fun e W' => e = .returned (.bool true) ∧ Below W.heap.size W W' := by
  obtain ⟨v0, v1, v2, d0, d1, d2, rfl, a0, a1, a2⟩ := h.args3 rfl
  obtain ⟨a, rfl, ha, ha'⟩ := a0.u64 Try.underlying22
  obtain ⟨b, rfl, hb, hb'⟩ := a1.u64 Try.underlying22
  obtain ⟨c, rfl, hc, hc'⟩ := a2.u64 Try.underlying22
  clear h a0 a1 a2
  by_cases h0 : c = 0
  · subst h0
    have hw : winT a 0 = 0 := rfl
    go_enter Try.func6, Try.ntmps6
    go_wp2_with (first
      | (go_at_call 15; refine (tickAwake _).mono ?_; rintro e w' ⟨rfl, hb1⟩)
      | (go_at_call 24; refine (tickWindow _ _ _ (by omega) (by omega) (by omega) (by omega)).mono ?_; rintro e w' ⟨rfl, rfl⟩))
    go_ret
    exact ⟨rfl, hb1⟩
  · have hne : (c == 0) = false := by simpa using h0
    have hr := winT_rng a c ha ha' hc
    have hq : winT a c = a / c := by rw [winT, if_neg h0]
    have hs := addT_rng a b ha hb
    have hle : a ≤ addT a b := by unfold addT; split <;> omega
    have hm := winT_mono a (addT a b) c hle (by omega)
    have hx : winT a c * c ≤ a := by rw [hq]; exact Int.ediv_mul_le a (by omega)
    have hx0 : 0 ≤ winT a c * c := Int.mul_nonneg hr.1 hc
    have hy : winT (winT a c * c) c = winT a c := by
      rw [show winT (winT a c * c) c = winT a c * c / c from by rw [winT, if_neg h0]]
      exact Int.mul_ediv_cancel _ h0
    have hqb : (winT a c == a / c) = true := by rw [hq]; simp
    have HY := hid hy
    clear hq hy hle
    obtain ⟨hr0, hr1⟩ := hr
    obtain ⟨hs0, hs1⟩ := hs
    go_enter Try.func6, Try.ntmps6
    go_wp2_with (first
      | (go_at_call 15; refine (tickAwake _).mono ?_; rintro e w' ⟨rfl, hb1⟩)
      | (go_at_call 16; refine (tickAdd _ _ _ (by omega) (by omega) (by omega) (by omega)).mono ?_; rintro e w' ⟨rfl, rfl⟩)
      | (go_at_call 24; refine (tickWindow _ _ _ (by omega) (by omega) (by omega) (by omega)).mono ?_; rintro e w' ⟨rfl, rfl⟩))
    go_ret
    exact ⟨ret_bool (by rw [HY.out]; simp), hb1⟩

theorem foldMin_le (l : List Int) (m : Int) : l.foldl minI m ≤ m ∧ ∀ x ∈ l, l.foldl minI m ≤ x := by
  induction l generalizing m with
  | nil => exact ⟨Int.le_refl _, by simp⟩
  | cons x l ih =>
    obtain ⟨h1, h2⟩ := ih (minI m x)
    have h3 : minI m x ≤ m ∧ minI m x ≤ x := by unfold minI; split <;> omega
    refine ⟨Int.le_trans h1 h3.1, fun y hy => ?_⟩
    rcases List.mem_cons.1 hy with rfl | hy
    · exact Int.le_trans h1 h3.2
    · exact h2 y hy
theorem minI_le (a b : Int) : minI a b ≤ a ∧ minI a b ≤ b ∧ (minI a b = a ∨ minI a b = b) := by unfold minI; split <;> omega

theorem info_u64 : (Try.prog.info? 22).map (fun i => (i.zero, i.size, i.bytes)) = some (some (.int .u64 0), 1, 8) := by kernel_rfl

set_option maxHeartbeats 1000000 in
theorem tickDeadlineIsClamped_came {H : Type} {enc : TypeId × Value → H} (W : World) (args : Array Value) (ds : List (DataW H)) (h : Came enc Try.prog Try.f5 W args ds) :
    Calls Try.prog 5 args W fun e W' => e = .returned (.bool true) ∧ Below W.heap.size W W' := by
  obtain ⟨v0, v1, v2, v3, d0, d1, d2, d3, rfl, a0, a1, a2, a3⟩ := h.args4 rfl
  obtain ⟨a, rfl, ha, ha'⟩ := a0.u64 Try.underlying22
  obtain ⟨b, rfl, hb, hb'⟩ := a1.u64 Try.underlying22
  obtain ⟨o, rfl, ho, ho'⟩ := a2.u64 Try.underlying22
  obtain ⟨A, len, cap, zs, rfl, hl, hc, hsz, hrd, hwf⟩ := a3.ints Try.underlying27 Try.underlying22 (by kernel_rfl)
  have hb8 : Try.prog.bytesOf 22 = 8 := by kernel_rfl
  rw [hb8] at hsz
  unfold maxLen at hc
  have hlen := hrd.1
  generalize hM1 : minI (addT a b) (minL zs) = M1
  generalize hM2 : minI (addT a b) (minL (zs ++ [o])) = M2
  have hs := addT_rng a b ha hb
  have h1 : ∀ k, k < len → M1 ≤ at_ zs k := fun k hk => by
    rw [← hM1]
    exact Int.le_trans (minI_le _ _).2.1 ((foldMin_le zs _).2 _ (at_mem zs k (by omega)))
  have hzz : minL (zs ++ [o]) = minI (minL zs) o := minL_snoc zs o
  have h2 : M2 ≤ M1 := by rw [← hM1, ← hM2, hzz]; unfold minI; repeat' split <;> omega
  have h3 : M2 ≤ o := by rw [← hM2, hzz]; unfold minI; repeat' split <;> omega
  have h4 : o < a ∨ M1 < a ∨ a ≤ M2 := by
    have : a ≤ addT a b := by unfold addT; split <;> omega
    rw [← hM1, ← hM2, hzz]; unfold minI; repeat' split <;> omega
  have HM1 := hid hM1
  have HM2 := hid hM2
  have H1 := hid h1
  clear hM1 hM2 h1 hzz h a0 a1 a2 a3
  go_enter Try.func5, Try.ntmps5
  go_wp2_with fail
  refine (tickDeadline _ _ _ _ _ _ _ _ hrd (by omega) (by omega) (by omega) (by omega) (by omega)).mono ?_
  rintro e w' ⟨rfl, rfl⟩
  rw [HM1.out]
  go_wp2_with (first
    | (at_builtin; refine wpList_app _ rfl (.tmp 18) (.tmp 19) _ rfl W.heap.size 22 _ 1 8 Try.underlying27 info_u64 rfl (by omega) _ _ _ [] rfl (Own.new W _ _ _ [] 0 (Nat.le_refl _) (by unfold maxLen; omega) rfl) _ _ _ _ _ rfl (hrd.below ((Below.refl _ _).alloc (Nat.le_refl _) _)).rd (by simp [Value.oneCell']) (by unfold maxLen; omega) (by omega) (by simp) ?_; intro A2 c2 w2 own2 ch2 at2; simp only [Nat.zero_add, List.nil_append] at own2; have hz2 := ch2.size; simp only [World.size_alloc] at hz2)
    | (at_builtin; refine wpList_app _ rfl (.tmp 20) (.tmp 22) _ rfl W.heap.size 22 _ 1 8 Try.underlying27 info_u64 rfl (by omega) _ _ _ _ rfl (own2.alloc _) _ _ _ _ [.int .u64 o] rfl (Rd.new w2 1 [.int .u64 o] 1 rfl _) (by simp [Value.oneCell']) (by unfold maxLen; omega) (by omega) (by simp only [World.size_alloc]; omega) ?_; intro A3 c3 w3 own3 ch3 at3))
  have hrd3 : RdI .u64 w3 w3.heap.size A3 (len + 1) (zs ++ [o]) := Rd.ints (by simpa using own3.rd)
  have hbw : Below W.heap.size W w3 := by
    refine Below.ch (Below.ch ((Below.refl _ _).alloc (Nat.le_refl _) _) ch2 (by simp [blkOf]) (by simp) |>.alloc (by omega) _) ch3 (fun g hg => (own2.blks g hg).1) (by simp only [World.size_alloc]; omega)
  clear own3 ch3 at3 own2 ch2 at2
  refine (tickDeadline _ _ _ _ _ _ _ _ hrd3 (by omega) (by omega) (by omega) (by omega) (by omega)).mono ?_
  rintro e w' ⟨rfl, rfl⟩
  rw [HM2.out]
  have hrdW := hrd.below hbw
  clear hrd3 hrd
  go_wp2_with fail
  go_loop [11] (fun i => ∃ k : Nat, k ≤ len ∧ i = .int .i64 k) (fun i => len - (intOf i).toNat)
  case atStart => exact ⟨0, Nat.zero_le _, rfl⟩
  case round =>
    obtain ⟨k, hk, rfl⟩ := hrel
    by_cases hlt : k < len
    · obtain ⟨b', off, rfl, hbB, hcell⟩ := hrdW.2 (by omega)
      have hk' := hcell k hlt
      have hle := H1.out k hlt
      clear hcell
      go_wp2_with fail
      go_round
      case rel => exact ⟨k + 1, by omega, by go_num⟩
      case measure => simp [intOf]; omega
    · have hge : len ≤ k := by omega
      rcases h4 with h4 | h4 | h4
      · go_wp2_with ((go_at_call 15; refine (tickAwake _).mono ?_; rintro e w' ⟨rfl, hb1⟩))
        go_ret
        exact ⟨rfl, hbw.trans (hb1.mono hbw.size)⟩
      · go_wp2_with ((go_at_call 15; refine (tickAwake _).mono ?_; rintro e w' ⟨rfl, hb1⟩))
        all_goals go_ret
        all_goals exact ⟨rfl, hbw.trans (hb1.mono hbw.size)⟩
      · go_wp2_with ((go_at_call 15; refine (tickAwake _).mono ?_; rintro e w' ⟨rfl, hb1⟩))
        all_goals go_ret
        all_goals exact ⟨rfl, hbw.trans (hb1.mono hbw.size)⟩

end Go.Proofs.Ytjchkjaopdhhlaa
