/- For every input the law RelayDirectionsIndependent returns true, and each argument reads afterwards as it read before. -/
import Derived.Test.YtlgbijakljohlaaLawRelay3
namespace Go.Proofs.Ytlgbijakljohlaa
open Go.ChangeShapes Go.WideShapes Go.ChangeAt Go.RowKit
theorem relayDirectionsIndependent_holds : Rows.RelayDirectionsIndependentSaid :=
  OpenClaim.holds_of_wide 4 Try.f4 rfl rfl rfl rfl rfl rfl rfl ⟨rfl, rfl, rfl, rfl, rfl⟩ rfl rfl rfl rfl rfl (by kernel_rfl) Try.func4 (by kernel_rfl)
    (of_decide_eq_true (by kernel_rfl)) (by unfold Func.isWrapper; first | (rw [if_pos (by decide +kernel)]; kernel_rfl) | (rw [if_neg (by decide +kernel)]; exact ⟨rfl, rfl⟩))
    (fun os started H enc _ => law_shell 4 Try.f4 Rows.relayDirectionsIndependentSpec 4 (by kernel_rfl) started (by kernel_rfl) Try.func4 (by kernel_rfl) (by kernel_rfl) rfl Try.underlying4 rfl
      (fun ds h => by match ds, h with | [_, _, _, _], _ => rfl)
      (ChangeSpec.witness6 (enc := enc) (C := Try.checked) false ⟨#[], #[.int .i64 0, .slice none 0 0, .slice none 0 0, .bool false], []⟩ 8 (by kernel_rfl) (by kernel_rfl) (by kernel_rfl) (by kernel_rfl))
      (fun W args ds h => relayDirectionsIndependent_came W args ds h))
#print axioms relayDirectionsIndependent_holds
end Go.Proofs.Ytlgbijakljohlaa
