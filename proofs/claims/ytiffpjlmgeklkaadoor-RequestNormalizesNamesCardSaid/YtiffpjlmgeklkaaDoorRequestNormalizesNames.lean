/- For every input the law RequestNormalizesNames returns true, and each argument reads afterwards as it read before; the listed package-level variables hold what the program's text lays. -/
import Derived.Test.YtiffpjlmgeklkaaDoorLawReq4
import Derived.Test.YtiffpjlmgeklkaaDoorCards
import Derived.Test.YtiffpjlmgeklkaaDoorTie
import Derived.SevenTiedAt
import Derived.Test.YtiffpjlmgeklkaaDoorShellD
namespace Go.Proofs.YtiffpjlmgeklkaaDoor
open Go.ChangeShapes Go.WideShapes Go.ChangeAt Go.RowKit
theorem requestNormalizesNames_row : Rows.RequestNormalizesNamesSaid :=
  OpenClaim.holds_of_wide 8 Tryd.f8 rfl rfl rfl rfl rfl rfl rfl ⟨rfl, rfl, rfl, rfl, rfl⟩ rfl rfl rfl rfl rfl (by kernel_rfl) Tryd.func8 (by kernel_rfl)
    (of_decide_eq_true (by kernel_rfl)) (by unfold Func.isWrapper; first | (rw [if_pos (by decide +kernel)]; kernel_rfl) | (rw [if_neg (by decide +kernel)]; exact ⟨rfl, rfl⟩))
    (fun os started H enc _ => law_shell_door Rows.requestNormalizesNamesRow.laid 8 Tryd.f8 Rows.requestNormalizesNamesSpec 4 (by kernel_rfl) started (by kernel_rfl) Tryd.func8 (by kernel_rfl) (by kernel_rfl) rfl Tryd.underlying4 rfl
      (fun ds h => by match ds, h with | [_, _, _, _], _ => rfl)
      (door_witness (enc := enc) (C := Tryd.checked) #[.string ByteArray.empty, .int .i64 0, .int .i64 0, .string ByteArray.empty] 8 (World.shaped_of_ZipB (by kernel_rfl) (by kernel_rfl)) (by kernel_rfl) (by kernel_rfl) (by kernel_rfl) (by rw [MakeChecks.laidMetH_plain _ _ _ (by kernel_rfl)]; exact laidMet_laidAll _ (by kernel_rfl) (by kernel_rfl)))
      (fun W args ds hL h => requestNormalizesNames_came W args ds hL h))
theorem requestNormalizesNames_holds : Rows.RequestNormalizesNamesCardSaid :=
  Claim7.holds_tied_plain_at .later [] [.data, .pinned] true (true, "3ecd505b88df5f6bc6fe77fb691ff33168e41be296fcb93669854bab3c4f39bb") false requestNormalizesNames_row (fun _ h => by cases h) (by kernel_rfl) (fun _ h => by cases h) requestNormalizesNames_row_tie rfl ⟨rfl, rfl⟩ (by kernel_rfl) rfl
    (fun f fn hf hfn => by
      obtain rfl : f = 8 := Option.some.inj ((show Tryd.prog.funcNamed "ginnel/ginnellaw19.RequestNormalizesNames" = some 8 by kernel_rfl).symm.trans hf) |>.symm
      obtain rfl : fn = Tryd.f8 := (Option.some.inj (Tryd.func8.symm.trans hfn)).symm
      exact ⟨by kernel_rfl, fun j t ht => by
        have hall : (Tryd.f8.params.toList.all fun u => !Tryd.prog.wantsStandIn u) = true := by kernel_rfl
        have hm : t ∈ Tryd.f8.params.toList := Array.mem_toList_iff.2 (Array.mem_of_getElem? ht)
        have h2 := List.all_eq_true.1 hall t hm
        cases hx : Tryd.prog.wantsStandIn t with
        | false => exact hx
        | true => rw [hx] at h2; cases h2⟩)
    (by kernel_rfl)
#print axioms requestNormalizesNames_holds
end Go.Proofs.YtiffpjlmgeklkaaDoor
