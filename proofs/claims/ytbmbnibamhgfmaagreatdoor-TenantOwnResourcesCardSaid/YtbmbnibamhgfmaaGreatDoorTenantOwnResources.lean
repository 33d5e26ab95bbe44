/- For every input the law TenantOwnResources returns true, and each argument reads afterwards as it read before; the listed package-level variables hold what the program's text lays. -/
import Derived.Test.YtbmbnibamhgfmaaGreatDoorLawTen1
import Derived.Test.YtbmbnibamhgfmaaGreatDoorCards
import Derived.Test.YtbmbnibamhgfmaaGreatDoorTie
import Derived.SevenTiedAt
import Derived.Test.YtbmbnibamhgfmaaGreatDoorMD
namespace Go.Proofs.YtbmbnibamhgfmaaGreatDoor
open Go.ChangeShapes Go.WideShapes Go.ChangeAt Go.RowKit
theorem tenantOwnResources_row : Rows.TenantOwnResourcesSaid :=
  OpenClaim.holds_of_wide 8 Tryz.f8 rfl rfl rfl rfl rfl rfl rfl ⟨rfl, rfl, rfl, rfl, rfl⟩ rfl rfl rfl rfl rfl (by kernel_rfl) Tryz.func8 (by kernel_rfl)
    (of_decide_eq_true (by kernel_rfl)) (by unfold Func.isWrapper; first | (rw [if_pos (by decide +kernel)]; kernel_rfl) | (rw [if_neg (by decide +kernel)]; exact ⟨rfl, rfl⟩))
    (fun os started H enc _ => law_shell_door Rows.tenantOwnResourcesRow.laid 8 Tryz.f8 Rows.tenantOwnResourcesSpec 4 (by kernel_rfl) started (by kernel_rfl) Tryz.func8 (by kernel_rfl) (by kernel_rfl) rfl Tryz.underlying4 rfl
      (fun ds h => by match ds, h with | [_, _, _], _ => rfl)
      (door_witness (enc := enc) (C := Tryz.checked) #[.slice none 0 0, .slice none 0 0, .slice none 0 0] 8 (World.shaped_of_ZipB (by kernel_rfl) (by kernel_rfl)) (by kernel_rfl) (by kernel_rfl) (by kernel_rfl) (by rw [MakeChecks.laidMetH_plain _ _ _ (by kernel_rfl)]; exact laidMet_laidAll _ (by kernel_rfl) (by kernel_rfl)))
      (fun W args ds hL h => tenantOwnResources_came W args ds hL h))
theorem tenantOwnResources_holds : Rows.TenantOwnResourcesCardSaid :=
  Claim7.holds_tied_plain_at .later [] [.data, .pinned] true (true, "e10b129e09d93acf807922aa72feedf06f50644f4922f879a64f7dd0fa0b77cc") false tenantOwnResources_row (fun _ h => by cases h) (by kernel_rfl) (fun _ h => by cases h) tenantOwnResources_row_tie rfl ⟨rfl, rfl⟩ (by kernel_rfl) rfl
    (fun f fn hf hfn => by
      obtain rfl : f = 8 := Option.some.inj ((show Tryz.prog.funcNamed "ginnel/ginnellaw14.TenantOwnResources" = some 8 by kernel_rfl).symm.trans hf) |>.symm
      obtain rfl : fn = Tryz.f8 := (Option.some.inj (Tryz.func8.symm.trans hfn)).symm
      exact ⟨by kernel_rfl, fun j t ht => by
        have hall : (Tryz.f8.params.toList.all fun u => !Tryz.prog.wantsStandIn u) = true := by kernel_rfl
        have hm : t ∈ Tryz.f8.params.toList := Array.mem_toList_iff.2 (Array.mem_of_getElem? ht)
        have h2 := List.all_eq_true.1 hall t hm
        cases hx : Tryz.prog.wantsStandIn t with
        | false => exact hx
        | true => rw [hx] at h2; cases h2⟩)
    (by kernel_rfl)
#print axioms tenantOwnResources_holds
end Go.Proofs.YtbmbnibamhgfmaaGreatDoor
