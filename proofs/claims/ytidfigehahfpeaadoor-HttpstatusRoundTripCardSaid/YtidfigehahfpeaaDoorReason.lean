/- Package reason and its reference: the codes, and the smallest listed reason. -/
import Derived.Test.YtidfigehahfpeaaDoorProg
import Derived.Test.YtidfigehahfpeaaDoorStages3
import Derived.Test.YtidfigehahfpeaaDoorMinMax
import Derived.Test.YtidfigehahfpeaaDoorMem
namespace Go.Proofs.YtidfigehahfpeaaDoor
open Go.RowKit

def sockOf (w : Int) : Int := if w = 0 then 0 else if w = 1 then 5 else if w = 2 then 3 else if w = 3 then 6 else if w = 4 then 4 else if w = 5 then 2 else if w = 8 then 7 else if w = 9 then 8 else 1
def httpOf (w : Int) : Int := if w = 0 then 200 else if w = 1 then 502 else if w = 2 then 502 else if w = 3 then 504 else if w = 4 then 502 else if w = 5 then 403 else if w = 6 then 429 else if w = 7 then 503 else if w = 11 then 407 else 400

theorem rsnCodes (v : Int) (w : World) : Calls Tryd.prog 51 #[.int .i64 v] w fun e w' => e = .returned (.tuple #[.int .i64 (sockOf v), .int .i64 (httpOf v)]) ∧ w = w' := by
  go_enter Tryd.func51, Tryd.ntmps51
  go_wp2
  all_goals
    go_ret2
    refine ⟨?_, rfl⟩
    simp_all [sockOf, httpOf]

theorem rsnSocks (v : Int) (w : World) : Calls Tryd.prog 32 #[.int .i64 v] w fun e w' => e = .returned (.int .i64 (sockOf v)) ∧ w = w' := by
  go_enter Tryd.func32, Tryd.ntmps32
  go_wp2_with (go_at_call 51; with_reducible refine (rsnCodes _ _).mono ?_; rintro e w' ⟨rfl, rfl⟩)
  go_ret
  exact ⟨rfl, rfl⟩
theorem rsnHttp (v : Int) (w : World) : Calls Tryd.prog 34 #[.int .i64 v] w fun e w' => e = .returned (.int .i64 (httpOf v)) ∧ w = w' := by
  go_enter Tryd.func34, Tryd.ntmps34
  go_wp2_with (go_at_call 51; with_reducible refine (rsnCodes _ _).mono ?_; rintro e w' ⟨rfl, rfl⟩)
  go_ret
  exact ⟨rfl, rfl⟩

set_option maxHeartbeats 2000000 in
theorem refSocks (v : Int) (w : World) : Calls Tryd.prog 33 #[.int .i64 v] w fun e w' => e = .returned (.int .i64 (sockOf v)) ∧ Ch [] w w' := by
  by_cases h : 0 ≤ v ∧ v < 12
  · rcases (show v = 0 ∨ v = 1 ∨ v = 2 ∨ v = 3 ∨ v = 4 ∨ v = 5 ∨ v = 6 ∨ v = 7 ∨ v = 8 ∨ v = 9 ∨ v = 10 ∨ v = 11 by omega) with rfl | rfl | rfl | rfl | rfl | rfl | rfl | rfl | rfl | rfl | rfl | rfl
    all_goals
      clear h
      go_enter Tryd.func33, Tryd.ntmps33
      go_wp2
      go_ret
      exact ⟨rfl, (Ch.refl _ _).alloc _⟩
  · have e : sockOf v = 1 := by unfold sockOf; split <;> (try omega); repeat (split <;> (try omega))
    rw [e]
    rcases (show v < 0 ∨ 0 ≤ v ∧ 12 ≤ v by omega) with h1 | ⟨h1, h2⟩
    all_goals
      clear h e
      go_enter Tryd.func33, Tryd.ntmps33
      go_wp2
      go_ret
      exact ⟨rfl, (Ch.refl _ _).alloc _⟩
set_option maxHeartbeats 2000000 in
theorem refHttp (v : Int) (w : World) : Calls Tryd.prog 35 #[.int .i64 v] w fun e w' => e = .returned (.int .i64 (httpOf v)) ∧ Ch [] w w' := by
  by_cases h : 0 ≤ v ∧ v < 12
  · rcases (show v = 0 ∨ v = 1 ∨ v = 2 ∨ v = 3 ∨ v = 4 ∨ v = 5 ∨ v = 6 ∨ v = 7 ∨ v = 8 ∨ v = 9 ∨ v = 10 ∨ v = 11 by omega) with rfl | rfl | rfl | rfl | rfl | rfl | rfl | rfl | rfl | rfl | rfl | rfl
    all_goals
      clear h
      go_enter Tryd.func35, Tryd.ntmps35
      go_wp2
      go_ret
      exact ⟨rfl, (Ch.refl _ _).alloc _⟩
  · have e : httpOf v = 400 := by unfold httpOf; split <;> (try omega); repeat (split <;> (try omega))
    rw [e]
    rcases (show v < 0 ∨ 0 ≤ v ∧ 12 ≤ v by omega) with h1 | ⟨h1, h2⟩
    all_goals
      clear h e
      go_enter Tryd.func35, Tryd.ntmps35
      go_wp2
      go_ret
      exact ⟨rfl, (Ch.refl _ _).alloc _⟩

end Go.Proofs.YtidfigehahfpeaaDoor
