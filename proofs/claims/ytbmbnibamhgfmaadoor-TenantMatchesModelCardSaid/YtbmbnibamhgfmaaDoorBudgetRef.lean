/- What the methods of the reference model of a budget compute: a contract each. -/
import Derived.Test.YtbmbnibamhgfmaaDoorBudget
namespace Go.Proofs.YtbmbnibamhgfmaaDoor
open Go.RowKit

def validBud (n width : Int) : Bool := decide (0 ≤ n) && decide (n ≤ 1000) && decide (1 ≤ width) && decide (width ≤ 1099511627776)
theorem rudValid (n width : Int) (w : World) :
    Calls Tryd.prog 35 #[.int .i64 n, .int .u64 width] w fun e w' => e = .returned (.bool (validBud n width)) ∧ w = w' := by
  by_cases c1 : 0 ≤ n
  · by_cases c2 : n ≤ 1000
    · by_cases c3 : 1 ≤ width
      · by_cases c4 : width ≤ 1099511627776
        all_goals
          go_enter Tryd.func35, Tryd.ntmps35
          go_wp2
          go_ret
          exact ⟨ret_bool (by simp [validBud]; omega), rfl⟩
      · go_enter Tryd.func35, Tryd.ntmps35
        go_wp2
        go_ret
        exact ⟨ret_bool (by simp [validBud]; omega), rfl⟩
    · go_enter Tryd.func35, Tryd.ntmps35
      go_wp2
      go_ret
      exact ⟨ret_bool (by simp [validBud]; omega), rfl⟩
  · go_enter Tryd.func35, Tryd.ntmps35
    go_wp2
    go_ret
    exact ⟨ret_bool (by simp [validBud]; omega), rfl⟩

end Go.Proofs.YtbmbnibamhgfmaaDoor
