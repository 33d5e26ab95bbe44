/- Statements about layer 5 (ring): for every input the law returns true and turns nothing that was there. -/
import Derived.Test.YtjchkjaopdhhlaaRows
import Derived.Test.YtjchkjaopdhhlaaRingI
import Derived.Test.YtjchkjaopdhhlaaRingB
import Derived.Test.YtjchkjaopdhhlaaHelpEqI
import Derived.Test.YtjchkjaopdhhlaaGen
import Derived.Test.YtjchkjaopdhhlaaShell
namespace Go.Proofs.Ytjchkjaopdhhlaa
open Go.ChangeShapes Go.WideShapes Go.ChangeAt Go.RowKit

theorem ringSNew_bad (n : Int) (w : World) (h : n < 1) :
    Calls Try.prog 52 #[.int .i64 n] w fun e w' => e = .returned (.tuple #[.pointer none, .int .i64 1]) ∧ w = w' := by
  go_enter Try.func52, Try.ntmps52
  go_wp2
  go_ret2
  exact ⟨rfl, rfl⟩

theorem ringAwake (w : World) : Calls Try.prog 36 #[] w fun e w' => e = .returned (.bool true) ∧ Below w.heap.size w w' := by
  go_enter Try.func36, Try.ntmps36
  go_wp2_with fail
  refine (ringINew_ok 3 _ (by omega) (by omega)).mono ?_
  rintro e w1 ⟨rfl, R1, C1⟩
  go_wp2_with fail
  refine (ringSNew_bad 0 _ (by omega)).mono ?_
  rintro e w' ⟨rfl, rfl⟩
  have hg1 := R1.lt.1
  have hg2 := R1.lt.2.1
  have hz1 := C1.size
  go_wp2_with fail
  refine (ringIPushAs _ _ _ 3 [] (R1.ch ((Ch.refl [] _).alloc _) (by simp) (by simp)) _ 2 2 [1, 2] (RdI.new .i64 w1 [1, 2] 2 rfl 3 |>.more (by simp)) (by simp [blkOf]; omega) (by omega) (by omega) 2 [1, 2] rfl rfl).mono ?_
  rintro e w2 ⟨rfl, R2, C2⟩
  have hz2 := C2.size
  simp only [World.size_alloc] at hz2
  go_wp2_with fail
  refine (ringIPushAs _ _ _ 3 [1, 2] (R2.ch ((Ch.refl [] _).alloc _) (by simp) (by simp)) _ 2 2 [3, 4] (RdI.new .i64 w2 [3, 4] 2 rfl 3 |>.more (by simp)) (by simp [blkOf]; omega) (by omega) (by omega) 1 [1, 2, 3] rfl rfl).mono ?_
  rintro e w3 ⟨rfl, R3, C3⟩
  have hz3 := C3.size
  simp only [World.size_alloc] at hz3
  go_wp2_with fail
  refine (ringIPop _ _ _ 3 [1, 2, 3] R3 2).mono ?_
  rintro e w4 ⟨A, cc, rfl, O4, R4, C4⟩
  go_wp2_with fail
  have r4 : RdI .i64 w4 w4.heap.size A 2 [1, 2] := Rd.ints (by simpa using O4.rd)
  refine (eqIEqual _ _ _ _ _ _ _ [1, 2] [1, 2] _ _ (r4.ch ((Ch.refl [] _).alloc _) (Nat.le_refl _) (by simp)) (RdI.new .i64 w4 [1, 2] 2 rfl 3) (by simp) (by simp)).mono ?_
  rintro e w5 ⟨rfl, n5, rfl⟩
  have hz4 := C4.size
  have R5 : ringIAt ((w4.alloc (.cells #[.int .i64 1, .int .i64 2] 3)).drewN n5) (w.heap.size + 1) w.heap.size 3 [3] := (R4.ch ((Ch.refl [] _).alloc _) (by simp) (by simp)).heap rfl
  go_wp2_with fail
  refine (ringIFree _ _ _ 3 [3] R5).mono ?_
  rintro e w6 ⟨rfl, n6, rfl⟩
  go_wp2_with fail
  refine (ringILen _ (w.heap.size + 1) w.heap.size 3 [3] ?_).mono ?_
  exact R5.heap rfl
  rintro e w' ⟨rfl, rfl⟩
  go_wp2_with fail
  refine (ringICap _ (w.heap.size + 1) w.heap.size 3 [3] ?_).mono ?_
  exact R5.heap rfl
  rintro e w' ⟨rfl, rfl⟩
  go_wp2_with fail
  go_ret
  refine ⟨rfl, ?_⟩
  have k1 := C1.nil_below
  have k2 := Below.ch (k1.alloc hz1 _) C2 (by simp) (by simp; omega)
  have k3 := Below.ch (k2.alloc (by omega) _) C3 (by simp) (by simp; omega)
  have k4 := Below.ch k3 C4 (by simp) (by omega)
  exact Below.drewN (k4.alloc (by omega) _) _

theorem ringValidatesCapacity_came {H : Type} {enc : TypeId × Value → H} (W : World) (args : Array Value) (ds : List (DataW H)) (h : Came enc Try.prog Try.f11 W args ds) :
    Calls Try.prog 11 args W fun e W' => e = .returned (.bool true) ∧ Below W.heap.size W W' := by
  obtain ⟨v0, d0, rfl, a0⟩ := h.args1 rfl
  obtain ⟨n, rfl, hn, hn'⟩ := a0.i64 Try.underlying3
  clear h a0
  by_cases hv : 1 ≤ n ∧ n ≤ 4096
  · obtain ⟨h1, h2⟩ := hv
    obtain ⟨c, rfl⟩ := Int.eq_ofNat_of_zero_le (show 0 ≤ n by omega)
    go_enter Try.func11, Try.ntmps11
    go_wp2_with fail
    refine (ringBNew_ok c _ (by omega) (by omega)).mono ?_
    rintro e w1 ⟨rfl, R1, C1⟩
    have hg := R1.lt
    go_wp2_with fail
    refine (ringAwake _).mono ?_
    rintro e w2 ⟨rfl, hb2⟩
    have R2 := R1.below hb2 hg.1 hg.2.1
    go_wp2_with fail
    refine (ringBCap _ _ _ c [] R2).mono ?_
    rintro e w' ⟨rfl, rfl⟩
    go_wp2_with fail
    refine (ringBFree _ _ _ c [] R2).mono ?_
    rintro e w3 ⟨rfl, q, rfl⟩
    go_wp2_with fail
    refine (ringBLen _ (W.heap.size + 1) W.heap.size c [] ?_).mono ?_
    exact R2.heap rfl
    rintro e w' ⟨rfl, rfl⟩
    go_wp2_with fail
    go_ret
    exact ⟨ret_bool (by simp), Below.drewN (C1.nil_below.trans (hb2.mono C1.size)) _⟩
  · by_cases hv1 : 1 ≤ n
    · have hv2 : 4096 < n := by omega
      go_enter Try.func11, Try.ntmps11
      go_wp2_with fail
      refine (ringBNew_bad n _ (by omega)).mono ?_
      rintro e w' ⟨rfl, rfl⟩
      go_wp2_with fail
      refine (ringAwake _).mono ?_
      rintro e w2 ⟨rfl, hb2⟩
      go_wp2_with fail
      go_ret
      exact ⟨rfl, hb2⟩
    · have hv2 : n < 1 := by omega
      go_enter Try.func11, Try.ntmps11
      go_wp2_with fail
      refine (ringBNew_bad n _ (by omega)).mono ?_
      rintro e w' ⟨rfl, rfl⟩
      go_wp2_with fail
      refine (ringAwake _).mono ?_
      rintro e w2 ⟨rfl, hb2⟩
      go_wp2_with fail
      go_ret
      exact ⟨rfl, hb2⟩
end Go.Proofs.Ytjchkjaopdhhlaa
