/- For every input the law AclCopiesRules returns true, and each argument reads afterwards as it read before; the listed package-level variables hold what the program's text lays. -/
import Derived.Test.YtbmbnibamhgfmaaGreatDoorLawAcl5
import Derived.Test.YtbmbnibamhgfmaaGreatDoorCards
import Derived.Test.YtbmbnibamhgfmaaGreatDoorTie
import Derived.SevenTiedAt
import Derived.Test.YtbmbnibamhgfmaaGreatDoorMD
namespace Go.Proofs.YtbmbnibamhgfmaaGreatDoor
open Go.ChangeShapes Go.WideShapes Go.ChangeAt Go.RowKit
theorem aclCopiesRules_row : Rows.AclCopiesRulesSaid :=
  OpenClaim.holds_of_wide 7 Tryz.f7 rfl rfl rfl rfl rfl rfl rfl ⟨rfl, rfl, rfl, rfl, rfl⟩ rfl rfl rfl rfl rfl (by kernel_rfl) Tryz.func7 (by kernel_rfl)
    (of_decide_eq_true (by kernel_rfl)) (by unfold Func.isWrapper; first | (rw [if_pos (by decide +kernel)]; kernel_rfl) | (rw [if_neg (by decide +kernel)]; exact ⟨rfl, rfl⟩))
    (fun os started H enc _ => law_shell_door Rows.aclCopiesRulesRow.laid 7 Tryz.f7 Rows.aclCopiesRulesSpec 4 (by kernel_rfl) started (by kernel_rfl) Tryz.func7 (by kernel_rfl) (by kernel_rfl) rfl Tryz.underlying4 rfl
      (fun ds h => by match ds, h with | [_, _, _], _ => rfl)
      (door_witness (enc := enc) (C := Tryz.checked) #[.slice none 0 0, .agg #[.bool false, .int .u8 0, .int .u8 0, .int .u8 0, .int .u8 0, .int .u8 0, .int .u8 0, .int .u8 0, .int .u8 0, .int .u8 0, .int .u8 0, .int .u8 0, .int .u8 0, .int .u8 0, .int .u8 0, .int .u8 0, .int .u8 0], .int .i64 0] 8 (World.shaped_of_ZipB (by kernel_rfl) (by kernel_rfl)) (by kernel_rfl) (by kernel_rfl) (by kernel_rfl) (by rw [MakeChecks.laidMetH_plain _ _ _ (by kernel_rfl)]; exact laidMet_laidAll _ (by kernel_rfl) (by kernel_rfl)))
      (fun W args ds hL h => aclCopiesRules_came W args ds hL h))
theorem aclCopiesRules_holds : Rows.AclCopiesRulesCardSaid :=
  Claim7.holds_tied_plain_at .later [] [.data, .pinned] true (true, "e10b129e09d93acf807922aa72feedf06f50644f4922f879a64f7dd0fa0b77cc") false aclCopiesRules_row (fun _ h => by cases h) (by kernel_rfl) (fun _ h => by cases h) aclCopiesRules_row_tie rfl ⟨rfl, rfl⟩ (by kernel_rfl) rfl
    (fun f fn hf hfn => by
      obtain rfl : f = 7 := Option.some.inj ((show Tryz.prog.funcNamed "ginnel/ginnellaw12.AclCopiesRules" = some 7 by kernel_rfl).symm.trans hf) |>.symm
      obtain rfl : fn = Tryz.f7 := (Option.some.inj (Tryz.func7.symm.trans hfn)).symm
      exact ⟨by kernel_rfl, fun j t ht => by
        have hall : (Tryz.f7.params.toList.all fun u => !Tryz.prog.wantsStandIn u) = true := by kernel_rfl
        have hm : t ∈ Tryz.f7.params.toList := Array.mem_toList_iff.2 (Array.mem_of_getElem? ht)
        have h2 := List.all_eq_true.1 hall t hm
        cases hx : Tryz.prog.wantsStandIn t with
        | false => exact hx
        | true => rw [hx] at h2; cases h2⟩)
    (by kernel_rfl)
#print axioms aclCopiesRules_holds
end Go.Proofs.YtbmbnibamhgfmaaGreatDoor
