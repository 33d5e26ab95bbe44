/- The walk of RingIsFIFO. -/
import Derived.Test.YtjchkjaopdhhlaaLawRing
namespace Go.Proofs.Ytjchkjaopdhhlaa
open Go.ChangeShapes Go.WideShapes Go.ChangeAt Go.RowKit

/-- The numbers f, f+1, .., m of them. -/
def runI (f m : Nat) : List Int := (List.range' f m).map (fun (i : Nat) => (i : Int))
theorem runI_length (f m : Nat) : (runI f m).length = m := by simp [runI]
theorem runI_at (f m i : Nat) (h : i < m) : at_ (runI f m) i = ((f + i : Nat) : Int) := by simp [runI, at_, List.getD, h]
theorem runI_append (f m p : Nat) : runI f m ++ runI (f + m) p = runI f (m + p) := by
  unfold runI; rw [← List.map_append, List.range'_append_1]
theorem runI_cut (f m p : Nat) (h : p ≤ m) : runI f m = runI f p ++ runI (f + p) (m - p) := by
  rw [runI_append, show p + (m - p) = m by omega]
theorem runI_take (f m p : Nat) (h : p ≤ m) : (runI f m).take p = runI f p := by
  rw [runI_cut f m p h, List.take_left' (runI_length _ _)]
theorem runI_drop (f m p : Nat) (h : p ≤ m) : (runI f m).drop p = runI (f + p) (m - p) := by
  rw [runI_cut f m p h, List.drop_left' (runI_length _ _)]
theorem runI_succ (f m : Nat) : runI f (m + 1) = runI f m ++ [(f : Int) + m] := by
  rw [← runI_append]; simp [runI]

theorem ringINew_as (n : Int) (c : Nat) (hn : n = c) (w : World) (h0 : 1 ≤ c) (h1 : c ≤ 4096) :
    Calls Try.prog 40 #[.int .i64 n] w fun e w' => e = .returned (.tuple #[.pointer (some ⟨w.heap.size + 1, 0, none⟩), .int .i64 0]) ∧ ringIAt w' (w.heap.size + 1) w.heap.size c [] ∧ Ch [] w w' := by
  subst hn; exact ringINew_ok c w h0 h1

theorem genModAs (v n r : Int) (hr : modI v n = r) (w : World) (h0 : 0 < n) (h1 : n ≤ 9223372036854775807) :
    Calls Try.prog 31 #[.int .i64 v, .int .i64 n] w fun e w' => e = .returned (.int .i64 r) ∧ w = w' := by
  subst hr; exact genMod v n w h0 h1

theorem ringIPopAs (w : World) (g b c : Nat) (xs : List Int) (h : ringIAt w g b c xs) (n : Int) (D : Nat) (hD : min n.toNat xs.length = D) (ys zs : List Int) (hy : xs.take D = ys) (hz : xs.drop D = zs) :
    Calls Try.prog 43 #[.pointer (some ⟨g, 0, none⟩), .int .i64 n] w fun e w' => ∃ A cc, e = .returned (.slice A D cc) ∧ Own w' w.heap.size 3 1 A D cc (ys.map (Value.int .i64)) ∧ ringIAt w' g b c zs ∧ Ch [g, b] w w' := by
  subst hy; subst hz; subst hD; exact ringIPop w g b c xs h n
theorem ringILenAs (w : World) (g b c : Nat) (xs : List Int) (h : ringIAt w g b c xs) (r : Int) (hr : (xs.length : Int) = r) :
    Calls Try.prog 45 #[.pointer (some ⟨g, 0, none⟩)] w fun e w' => e = .returned (.int .i64 r) ∧ w = w' := by
  subst hr; exact ringILen w g b c xs h

set_option maxRecDepth 100000 in
set_option maxHeartbeats 1000000 in
theorem ringIsFIFO_came {H : Type} {enc : TypeId × Value → H} (W : World) (args : Array Value) (ds : List (DataW H)) (h : Came enc Try.prog Try.f13 W args ds) :
    Calls Try.prog 13 args W fun e W' => e = .returned (.bool true) ∧ Below W.heap.size W W' := by
  obtain ⟨v0, v1, v2, v3, d0, d1, d2, d3, rfl, a0, a1, a2, a3⟩ := h.args4 rfl
  obtain ⟨n, rfl, hn, hn'⟩ := a0.i64 Try.underlying3
  obtain ⟨inn, rfl, hi, hi'⟩ := a1.i64 Try.underlying3
  obtain ⟨out, rfl, ho, ho'⟩ := a2.i64 Try.underlying3
  obtain ⟨tu, rfl, ht, ht'⟩ := a3.i64 Try.underlying3
  clear h a0 a1 a2 a3
  obtain ⟨p0, p1⟩ := modI_rng n 20 (by omega)
  obtain ⟨q0, q1⟩ := modI_rng tu 150 (by omega)
  obtain ⟨c, hc⟩ := Int.eq_ofNat_of_zero_le (show 0 ≤ modI n 20 by omega)
  have HC := hid hc
  have hc0 : c < 20 := by omega
  clear p0 p1 hc
  obtain ⟨r0, r1⟩ := modI_rng inn (1 + (c : Int) + 2) (by omega)
  obtain ⟨J, hJ⟩ := Int.eq_ofNat_of_zero_le (show 0 ≤ modI inn (1 + (c : Int) + 2) by omega)
  have HJ := hid hJ
  have hJ0 : J < c + 3 := by omega
  clear r0 r1 hJ
  obtain ⟨r0, r1⟩ := modI_rng out (1 + (c : Int) + 2) (by omega)
  obtain ⟨O, hO⟩ := Int.eq_ofNat_of_zero_le (show 0 ≤ modI out (1 + (c : Int) + 2) by omega)
  have HO := hid hO
  have hO0 : O < c + 3 := by omega
  clear r0 r1 hO
  go_enter Try.func13, Try.ntmps13
  go_wp2_with fail
  refine (genModAs _ _ c HC.out _ (by omega) (by omega)).mono ?_
  rintro e w' ⟨rfl, rfl⟩
  go_wp2_with fail
  refine (ringINew_as _ (1 + c) (by omega) _ (by omega) (by omega)).mono ?_
  rintro e w1 ⟨rfl, R1, C1⟩
  have hz1 := C1.size
  have hb1 := C1.nil_below
  go_wp2_with fail
  go_loopw [12, 13, 14] (fun nx fi i wr => ∃ (k a m : Nat), k ≤ 150 ∧ m ≤ 1 + c ∧ a + m ≤ k * 22 ∧ i = .int .i64 k ∧ fi = .int .i64 a ∧ nx = .int .i64 (a + m : Nat) ∧ ringIAt wr (W.heap.size + 1) W.heap.size (1 + c) (runI a m) ∧ Below W.heap.size W wr) (fun _ _ i _ => 150 - (intOf i).toNat)
  case atStart => exact ⟨0, 0, 0, by omega, by omega, by omega, rfl, rfl, rfl, R1, hb1⟩
  case round =>
    clear R1 C1 hb1 hz1
    obtain ⟨k, a, m, hk, hm, ham, rfl, rfl, rfl, hR, hb⟩ := hrel
    have hRl := hR.lt
    by_cases hlt : (k : Int) < modI tu 150
    · go_wp2_with (first
        | (go_at_call 31; with_reducible refine (genMod _ _ _ ?_ ?_).mono ?_; omega; omega; rintro e w' ⟨rfl, rfl⟩))
      rename World => w2
      go_loopw [15, 16] (fun l j wx => ∃ (j' : Nat) (A : Option Addr) (cc : Nat), j' ≤ J + 1 ∧ j = .int .i64 j' ∧ l = .slice A j' cc ∧ Own wx w2.heap.size 3 1 A j' cc ((runI (a + m) j').map (Value.int .i64)) ∧ Ch [] w2 wx) (fun _ j _ => J + 1 - (intOf j).toNat)
      case atStart => exact ⟨0, none, 0, by omega, rfl, rfl, Own.nil _ _ _ _, Ch.refl _ _⟩
      case round =>
        obtain ⟨j, A, cc, hj, rfl, rfl, hown, hch⟩ := hrel
        have hzz := hch.size
        by_cases hjl : j < J + 1
        · have HR : Hid (runI (a + m) (j + 1) = runI (a + m) j ++ [(a : Int) + m + j]) := by have := runI_succ (a + m) j; show _ = _; rw [this]; simp
          go_wp2_with (first
            | (go_at_call 31; with_reducible refine (genModAs _ _ J ?_ _ ?_ ?_).mono ?_; exact HJ.out; omega; omega; rintro e w' ⟨rfl, rfl⟩)
            | (at_builtin; go_must (refine wpList_app _ rfl (.tmp 47) (.tmp 51) _ rfl w2.heap.size 3 _ 1 8 Try.underlying58 ringI_info rfl (by omega) _ _ _ _ rfl (hown.alloc _) _ _ _ _ [.int .i64 ((a : Int) + m + j)] rfl (Rd.new _ 1 [.int .i64 ((a : Int) + m + j)] 1 rfl _) (by simp [Value.oneCell']) (by unfold maxLen; omega) (by omega) (by simp only [World.size_alloc]; omega) ?_; intro A2 c2' w3 own2 ch2 at2)))
          go_roundw
          case rel =>
            refine ⟨j + 1, A2, c2', by omega, by go_num, rfl, ?_, ?_⟩
            · rw [HR.out, List.map_append]; exact own2
            · exact (hch.alloc _).step ch2 (fun g' hg' => .inr (hown.blks g' hg').1)
          case measure => simp [intOf]; omega
        · obtain rfl : j = J + 1 := by omega
          have R2 := hR.ch hch (by simp) (by simp)
          have r0 : RdI .i64 wr wr.heap.size A (J + 1) (runI (a + m) (J + 1)) := Rd.ints hown.rd
          have hcap := hown.cap
          unfold maxLen at hcap
          have hA : ∀ x ∈ blkOf A, x ∉ [W.heap.size + 1, W.heap.size] := fun x hx => by have := (hown.blks x hx).1; simp; omega
          obtain ⟨M, hM⟩ : ∃ M, min (J + 1) (1 + c - m) = M := ⟨_, rfl⟩
          have hM1 : M ≤ J + 1 := by omega
          have hM2 : m + M ≤ 1 + c := by omega
          have HM : Hid (((min (runI (a + m) (J + 1)).length (1 + c - (runI a m).length) : Nat) : Int) = (M : Nat)) := by show _ = _; rw [runI_length, runI_length, hM]
          have HZ : Hid (runI a m ++ (runI (a + m) (J + 1)).take (1 + c - (runI a m).length) = runI a (m + M)) := by
            show _ = _
            rw [runI_length]
            rcases Nat.le_total (1 + c - m) (J + 1) with h1 | h1
            · rw [runI_take _ _ _ h1, runI_append]; congr 1; omega
            · rw [List.take_of_length_le (by rw [runI_length]; omega), runI_append]; congr 1; omega
          obtain ⟨D, hD⟩ : ∃ D, min (1 + O) (m + M) = D := ⟨_, rfl⟩
          have hD1 : D ≤ O + 1 := by omega
          have hD2 : D ≤ m + M := by omega
          have HD : Hid (min (1 + (O : Int)).toNat (runI a (m + M)).length = D) := by show _ = _; rw [runI_length, ← hD]; congr 1
          have HDA := hid (runI_take a (m + M) D hD2)
          have HDB := hid (runI_drop a (m + M) D hD2)
          clear hM hD
          go_wp2_with (first
            | (go_at_call 31; with_reducible refine (genModAs _ _ J ?_ _ ?_ ?_).mono ?_; exact HJ.out; omega; omega; rintro e w' ⟨rfl, rfl⟩)
            | (go_at_call 31; with_reducible refine (genModAs _ _ O ?_ _ ?_ ?_).mono ?_; exact HO.out; omega; omega; rintro e w' ⟨rfl, rfl⟩)
            | (go_at_call 41; go_must (with_reducible refine (ringIPushAs _ _ _ (1 + c) (runI a m) R2 A (J + 1) cc _ r0 hA hcap.1 (by omega) _ _ HM.out HZ.out).mono ?_; rintro e w3 ⟨rfl, R3, C3⟩))
            | (go_at_call 43; go_must (with_reducible refine (ringIPopAs _ _ _ (1 + c) _ R3 _ D HD.out _ _ HDA.out HDB.out).mono ?_; rintro e w4 ⟨A4, cc4, rfl, O4, R4, C4⟩)))
          have hz3 := C3.size
          have hz4 := C4.size
          go_loopw [13, 17] (fun fi j wx => ∃ (j' : Nat), j' ≤ D ∧ j = .int .i64 j' ∧ fi = .int .i64 ((a : Int) + j') ∧ Hid (wx = w4)) (fun _ j _ => D - (intOf j).toNat)
          case atStart => exact ⟨0, by omega, rfl, by go_num, rfl⟩
          case round =>
            obtain ⟨j, hjD, rfl, rfl, hw⟩ := hrel
            have R5 := hw.out.symm ▸ R4
            by_cases hjl : j < D
            · have r4 : RdI .i64 w4 w4.heap.size A4 D (runI a D) := Rd.ints O4.rd
              obtain ⟨b4, off4, rfl, _, hcell⟩ := r4.at_ hjl
              rw [runI_at _ _ _ hjl, ← hw.out] at hcell
              have hcell' : wr.cell? ⟨b4, off4 + j, none⟩ = some (.int .i64 ((a : Int) + j)) := by rw [hcell]; simp
              have hne : (((a : Int) + j) != ((a : Int) + j)) = false := by simp
              clear hcell
              go_wp2_with fail
              go_roundw
              case rel => exact ⟨j + 1, by omega, by go_num, by go_num, hw⟩
              case measure => simp [intOf]; omega
            · obtain rfl : j = D := by omega
              go_wp2_with (go_at_call 45; go_must (with_reducible refine (ringILenAs _ _ _ (1 + c) _ R5 ((m : Int) + M - j) (by rw [runI_length]; omega)).mono ?_; rintro e w' ⟨rfl, rfl⟩))
              go_roundw
              case rel =>
                refine ⟨k + 1, a + j, m + M - j, by omega, by omega, by omega, by go_num, by go_num, by go_num, R5, ?_⟩
                rw [hw.out]
                exact Below.ch (Below.ch (Below.ch hb hch (by simp) (by omega)) C3 (by simp) (by omega)) C4 (by simp) (by omega)
              case measure => simp [intOf]; omega
    · go_wp2_with (first
        | (go_at_call 31; with_reducible refine (genMod _ _ _ ?_ ?_).mono ?_; omega; omega; rintro e w' ⟨rfl, rfl⟩)
        | (go_at_call 36; with_reducible refine (ringAwake _).mono ?_; rintro e w0 ⟨rfl, hb0⟩))
      go_ret
      exact ⟨ret_bool (by simp; omega), hb.trans (hb0.mono (by have := hb.size; omega))⟩
end Go.Proofs.Ytjchkjaopdhhlaa
