/- ginnelgen.Mod. -/
import Derived.Test.YtjabeabbaambcaaDoorProg
import Derived.Test.YtjabeabbaambcaaDoorBase
namespace Go.Proofs.YtjabeabbaambcaaDoor
open Go.RowKit

def modI (v n : Int) : Int := (IntKind.u64.wrap v) % n
theorem u64_rng (v : Int) : 0 ≤ IntKind.u64.wrap v ∧ IntKind.u64.wrap v ≤ 18446744073709551615 := by rw [IntKind.wrap_u64]; omega
theorem modI_rng (v n : Int) (h : 0 < n) : 0 ≤ modI v n ∧ modI v n < n := ⟨Int.emod_nonneg _ (by omega), Int.emod_lt_of_pos _ h⟩

theorem genMod (v n : Int) (w : World) (h0 : 0 < n) (h1 : n ≤ 9223372036854775807) :
    Calls Tryd.prog 14 #[.int .i64 v, .int .i64 n] w fun e w' => e = .returned (.int .i64 (modI v n)) ∧ w = w' := by
  obtain ⟨r0, r1⟩ := u64_rng v
  have m0 : 0 ≤ IntKind.u64.wrap v % n := (modI_rng v n h0).1
  have m1 : IntKind.u64.wrap v % n < n := (modI_rng v n h0).2
  have hne : (n == 0) = false := by simp; omega
  go_enter Tryd.func14, Tryd.ntmps14
  go_wp2
  go_ret
  exact ⟨rfl, rfl⟩
end Go.Proofs.YtjabeabbaambcaaDoor
