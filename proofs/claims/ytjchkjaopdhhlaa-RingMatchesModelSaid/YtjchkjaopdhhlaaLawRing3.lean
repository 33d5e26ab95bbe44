/- The walk of RingDoesNotAlias. -/
import Derived.Test.YtjchkjaopdhhlaaLawRing2
import Derived.Test.YtjchkjaopdhhlaaHelpI
import Derived.Test.YtjchkjaopdhhlaaFloat
namespace Go.Proofs.Ytjchkjaopdhhlaa
open Go.ChangeShapes Go.WideShapes Go.ChangeAt Go.RowKit

theorem RdI.top {k : IntKind} {w : World} {A : Option Addr} {n : Nat} {xs : List Int} (h : RdI k w w.heap.size A n xs) (q : Nat) : RdI k (w.drewN q) (w.drewN q).heap.size A n xs := h.heap rfl

theorem ringIPeekAs (w : World) (g b c : Nat) (xs : List Int) (h : ringIAt w g b c xs) (n : Int) (D : Nat) (hD : min n.toNat xs.length = D) (ys : List Int) (hy : xs.take D = ys) :
    Calls Try.prog 44 #[.pointer (some ⟨g, 0, none⟩), .int .i64 n] w fun e w' => ∃ A cc, e = .returned (.slice A D cc) ∧ Own w' w.heap.size 3 1 A D cc (ys.map (Value.int .i64)) ∧ Ch [] w w' := by
  subst hy; subst hD; exact ringIPeek w g b c xs h n

set_option maxRecDepth 100000 in
set_option maxHeartbeats 1000000 in
theorem ringDoesNotAlias_came {H : Type} {enc : TypeId × Value → H} (W : World) (args : Array Value) (ds : List (DataW H)) (h : Came enc Try.prog Try.f14 W args ds) :
    Calls Try.prog 14 args W fun e W' => e = .returned (.bool true) ∧ Below W.heap.size W W' := by
  obtain ⟨v0, v1, d0, d1, rfl, a0, a1⟩ := h.args2 rfl
  obtain ⟨n, rfl, hn, hn'⟩ := a0.i64 Try.underlying3
  obtain ⟨A, len, cap, ys, rfl, hlc, hcm, hby, hrd, _⟩ := a1.ints Try.underlying58 Try.underlying3 (by kernel_rfl)
  have hb8 : cap * 8 ≤ 140737488351232 := by have e : Try.prog.bytesOf 3 = 8 := by kernel_rfl
                                             rwa [e] at hby
  unfold maxLen at hcm
  clear h a0 a1 hby
  obtain ⟨p0, p1⟩ := modI_rng n 30 (by omega)
  obtain ⟨c, hc⟩ := Int.eq_ofNat_of_zero_le (show 0 ≤ modI n 30 by omega)
  have HC := hid hc
  have hc0 : c < 30 := by omega
  clear p0 p1 hc
  have HL := hid hrd.1
  obtain ⟨T, hT⟩ : ∃ T : Nat, (len ≤ 1 + c ∧ T ≤ len ∧ len ≤ T) ∨ (1 + c < len ∧ T ≤ 1 + c ∧ 1 + c ≤ T) := by
    rcases Nat.lt_or_ge (1 + c) len with h1 | h1
    · exact ⟨_, .inr ⟨h1, Nat.le_refl _, Nat.le_refl _⟩⟩
    · exact ⟨_, .inl ⟨h1, Nat.le_refl _, Nat.le_refl _⟩⟩
  have hT1 : T ≤ len := by omega
  have hT2 : T ≤ 1 + c := by omega
  have HM : Hid (((min ys.length (1 + c - ([] : List Int).length) : Nat) : Int) = (T : Nat)) := by show _ = _; rw [HL.out]; simp; omega
  have HZ : Hid ([] ++ ys.take (1 + c - ([] : List Int).length) = ys.take T) := by
    show _ = _
    rcases hT with ⟨h1, _, _⟩ | ⟨h1, _, _⟩
    · rw [List.nil_append, List.length_nil, List.take_of_length_le (by rw [HL.out]; omega), List.take_of_length_le (by rw [HL.out]; omega)]
    · have e : T = 1 + c := by omega
      rw [e]; rfl
  have HTL : Hid ((ys.take T).length = T) := by show _ = _; rw [List.length_take, HL.out]; omega
  have HP1 : Hid (min (1 + (c : Int)).toNat (ys.take T).length = T) := by show _ = _; rw [HTL.out]; omega
  have HP2 : Hid (min ((T : Nat) : Int).toNat (ys.take T).length = T) := by show _ = _; rw [HTL.out]; omega
  have HTT : Hid ((ys.take T).take T = ys.take T) := by show _ = _; rw [List.take_take]; simp
  have HTD : Hid ((ys.take T).drop T = []) := by show _ = _; rw [List.drop_eq_nil_iff]; exact Nat.le_of_eq HTL.out
  have HM2 : Hid (((min (ys.take T).length (1 + c - ([] : List Int).length) : Nat) : Int) = (T : Nat)) := by show _ = _; rw [HTL.out]; simp; omega
  have HZ2 : Hid ([] ++ (ys.take T).take (1 + c - ([] : List Int).length) = ys.take T) := by
    show _ = _
    rw [List.nil_append, List.length_nil, List.take_of_length_le (by rw [HTL.out]; omega)]
  have hrT := hrd.take T hT1
  rcases hT with ⟨hT, hT3, hT4⟩ | ⟨hT, hT3, hT4⟩
  all_goals
    go_enter Try.func14, Try.ntmps14
    go_wp2_with fail
    refine (genModAs _ _ c HC.out _ (by omega) (by omega)).mono ?_
    rintro e w' ⟨rfl, rfl⟩
    go_wp2_with fail
    refine (ringINew_as _ (1 + c) (by omega) _ (by omega) (by omega)).mono ?_
    rintro e w1 ⟨rfl, R1, C1⟩
    have hz1 := C1.size
    have hb1 := C1.nil_below
    go_wp2_with fail
    refine (helpISpare w1 A len cap ys 9 W.heap.size (hrd.below hb1) hz1 (by omega)).mono ?_
    rintro e w2 ⟨A2, cc2, rfl, own2, C2⟩
    have hz2 := C2.size
    have hcc2 := own2.cap
    unfold maxLen at hcc2
    have R2 := R1.ch C2 (by simp) (by simp)
    have hRl := R1.lt
    have hA2 : ∀ x ∈ blkOf A2, x ∉ [W.heap.size + 1, W.heap.size] := fun x hx => by have := (own2.blks x hx).1; simp; omega
    have r2 : RdI .i64 w2 w2.heap.size A2 (len + 3) (ys ++ [9, 9, 9]) := Rd.ints own2.rd
    go_wp2_with fail
    refine (ringIPushAs _ _ _ (1 + c) [] R2 A2 len (len + 3) ys (r2.front HL.out) hA2 (by omega) (by omega) _ _ HM.out HZ.out).mono ?_
    rintro e w3 ⟨rfl, R3, C3⟩
    have hz3 := C3.size
    have own3 := own2.ch C3 hA2
    have r3 : RdI .i64 w3 w3.heap.size A2 (len + 3) (ys ++ [9, 9, 9]) := Rd.ints own3.rd
    have b3 := Below.ch (Below.ch hb1 C2 (by simp) hz1) C3 (by simp) (by omega)
    go_wp2_with fail
    refine (helpISame w3 _ _ len (len + 3) cap ys 9 _ _ r3 (hrd.below b3) (by omega) (by omega)).mono ?_
    rintro e w' ⟨rfl, q3, rfl⟩
    go_wp2_with fail
    refine (helpIZero _ w1.heap.size A2 len (len + 3) (len + 3) cc2 (ys ++ [9, 9, 9]) (own3.drewN q3) (by omega)).mono ?_
    rintro e w4 ⟨rfl, C4⟩
    have hz4 := C4.size
    simp only [World.heap_drewN] at hz4
    have R4 := (R3.ch ((Ch.refl [] w3).drewN q3) (by simp) (by simp)).ch C4 (fun hm => hA2 _ hm (by simp)) (fun hm => hA2 _ hm (by simp))
    go_wp2_with fail
    refine (ringIPeekAs _ _ _ (1 + c) _ R4 _ T HP1.out _ HTT.out).mono ?_
    rintro e w5 ⟨A5, cc5, rfl, own5, C5⟩
    have hz5 := C5.size
    have hcc5 := own5.cap
    unfold maxLen at hcc5
    have R5 := R4.ch C5 (by simp) (by simp)
    have hA5 : ∀ x ∈ blkOf A5, x ∉ [W.heap.size + 1, W.heap.size] := fun x hx => by have := (own5.blks x hx).1; simp; omega
    go_wp2_with fail
    refine (helpIZero w5 w4.heap.size A5 T cc5 T cc5 _ own5 (Nat.le_refl _)).mono ?_
    rintro e w6 ⟨rfl, C6⟩
    have hz6 := C6.size
    have R6 := R5.ch C6 (fun hm => hA5 _ hm (by simp)) (fun hm => hA5 _ hm (by simp))
    go_wp2_with fail
    refine (ringIPopAs w6 _ _ (1 + c) _ R6 _ T HP2.out _ _ HTT.out HTD.out).mono ?_
    rintro e w7 ⟨A7, cc7, rfl, own7, R7, C7⟩
    have hz7 := C7.size
    have hcc7 := own7.cap
    unfold maxLen at hcc7
    have hA7 : ∀ x ∈ blkOf A7, x ∉ [W.heap.size + 1, W.heap.size] := fun x hx => by have := (own7.blks x hx).1; simp; omega
    have b4 := Below.ch (Below.drewN b3 q3) C4 (fun x hx => by have := (own2.blks x hx).1; omega) (by simp; omega)
    have b5 := Below.ch b4 C5 (by simp) (by omega)
    have b6 := Below.ch b5 C6 (fun x hx => by have := (own5.blks x hx).1; omega) (by omega)
    have b7 := Below.ch b6 C7 (by simp) (by omega)
    have r7 : RdI .i64 w7 w7.heap.size A7 T (ys.take T) := Rd.ints own7.rd
    have hTne : ((T : Int) != (T : Int)) = false := by simp
    go_wp2_with (first
      | (go_at_call 42; go_must (with_reducible refine (eqISame w7 A7 A T cc7 T cap (ys.take T) _ _ r7 (hrT.below b7) (by omega) (by omega)).mono ?_; rintro e w' ⟨rfl, q7, rfl⟩))
      | (go_at_call 41; go_must (with_reducible refine (ringIPushAs _ _ _ (1 + c) [] ?_ A7 T cc7 (ys.take T) ?_ hA7 (by omega) (by omega) _ _ HM2.out HZ2.out).mono ?_; exact R7.heap rfl; exact r7.top q7; rintro e w8 ⟨rfl, R8, C8⟩)))
    have hz8 := C8.size
    simp only [World.heap_drewN] at hz8
    have own8 := (own7.drewN q7).ch C8 hA7
    have b8 := Below.ch (Below.drewN b7 q7) C8 (by simp) (by simp; omega)
    go_wp2_with fail
    refine (helpIZero w8 w6.heap.size A7 T cc7 T cc7 _ own8 (Nat.le_refl _)).mono ?_
    rintro e w9 ⟨rfl, C9⟩
    have hz9 := C9.size
    have R9 := R8.ch C9 (fun hm => hA7 _ hm (by simp)) (fun hm => hA7 _ hm (by simp))
    have b9 := Below.ch b8 C9 (fun x hx => by have := (own7.blks x hx).1; omega) (by omega)
    go_wp2_with fail
    refine wp_region_stages [([], 0, []), ([1, 2, 3, 5, 6, 7], 4, [5, 6, 7])] [8, 9, 10] (by kernel_rfl) (by kernel_rfl) ?_
    refine wpStages_step ?_
    simp only [pick, List.map_nil]
    refine wpQuiet_nil ?_
    intro nq
    simp only [pick, List.map_cons, List.map_nil, List.getD_cons_zero]
    go_wp2_with (go_at_call 36; with_reducible refine (ringAwake _).mono ?_; rintro e w10 ⟨rfl, hb10⟩)
    have R10 := R9.below ((Below.drewN (Below.refl w9.heap.size w9) nq).trans hb10) (by omega) (by omega)
    have b10 := b9.trans ((Below.drewN (Below.refl W.heap.size w9) nq).trans (hb10.mono (by simp; omega)))
    refine stagePost_mk (by simp [pick]) ?_
    refine wpStages_step ?_
    simp only [pick, List.map_cons, List.map_nil, List.getD_cons_zero, List.getD_cons_succ]
    repeat (go_big_quiet_step (fail))
    refine wpQuiet_nil ?_
    intro nq2
    simp only [pick, List.map_cons, List.map_nil, List.getD_cons_zero, List.getD_cons_succ]
    go_wp2_with (go_at_call 44; go_must (with_reducible refine (ringIPeekAs _ _ W.heap.size (1 + c) (ys.take T) ?_ _ T HP2.out _ HTT.out).mono ?_; exact R10.heap rfl; rintro e w11 ⟨A11, cc11, rfl, own11, C11⟩))
    refine stagePost_mk ?_ ?_
    · intro o ho
      simp only [pick, List.map_cons, List.map_nil, List.getD_cons_zero, List.getD_cons_succ, List.mem_cons, List.not_mem_nil, or_false] at ho
      rcases ho with rfl | rfl | rfl
      all_goals
        refine float_any ?_
        repeat (go_big_quiet_step (fail))
        refine wpQuiet_nil ?_
        rfl
    have b11 := Below.ch (Below.drewN b10 nq2) C11 (by simp) (by simp; have := hb10.size; simp at this; omega)
    have r11 : RdI .i64 w11 w11.heap.size A11 T (ys.take T) := Rd.ints own11.rd
    have hcc11 := own11.cap
    unfold maxLen at hcc11
    refine wpStages_last ?_
    simp only [pick, List.map_cons, List.map_nil, List.getD_cons_zero, List.getD_cons_succ]
    repeat (go_big_quiet_step ((go_at_call 42; exact Calls.quiet_of (eqISame _ A11 A T cc11 T cap (ys.take T) w11.heap.size _ (r11.heap rfl) ((hrT.below b11).heap rfl) (by omega) (by omega)))))
    refine wpQuiet_nil ?_
    intro nq3
    go_wp2
    go_ret
    exact ⟨rfl, Below.drewN b11 _⟩
end Go.Proofs.Ytjchkjaopdhhlaa
