/- For every input the law TenantMatchesModel returns true, and each argument reads afterwards as it read before; the listed package-level variables hold what the program's text lays. -/
import Derived.Test.YtbmbnibamhgfmaaDoorLawTen3
import Derived.Test.YtbmbnibamhgfmaaDoorCards
import Derived.Test.YtbmbnibamhgfmaaDoorTie
import Derived.SevenTiedAt
import Derived.Test.YtbmbnibamhgfmaaDoorMD
namespace Go.Proofs.YtbmbnibamhgfmaaDoor
open Go.ChangeShapes Go.WideShapes Go.ChangeAt Go.RowKit
theorem tenantMatchesModel_row : Rows.TenantMatchesModelSaid :=
  OpenClaim.holds_of_wide 3 Tryd.f3 rfl rfl rfl rfl rfl rfl rfl ⟨rfl, rfl, rfl, rfl, rfl⟩ rfl rfl rfl rfl rfl (by kernel_rfl) Tryd.func3 (by kernel_rfl)
    (of_decide_eq_true (by kernel_rfl)) (by unfold Func.isWrapper; first | (rw [if_pos (by decide +kernel)]; kernel_rfl) | (rw [if_neg (by decide +kernel)]; exact ⟨rfl, rfl⟩))
    (fun os started H enc _ => law_shell_door Rows.tenantMatchesModelRow.laid 3 Tryd.f3 Rows.tenantMatchesModelSpec 4 (by kernel_rfl) started (by kernel_rfl) Tryd.func3 (by kernel_rfl) (by kernel_rfl) rfl Tryd.underlying4 rfl
      (fun ds h => by match ds, h with | [_, _], _ => rfl)
      (door_witness (enc := enc) (C := Tryd.checked) #[.slice none 0 0, .slice none 0 0] 8 (World.shaped_of_ZipB (by kernel_rfl) (by kernel_rfl)) (by kernel_rfl) (by kernel_rfl) (by kernel_rfl) (by rw [MakeChecks.laidMetH_plain _ _ _ (by kernel_rfl)]; exact laidMet_laidAll _ (by kernel_rfl) (by kernel_rfl)))
      (fun W args ds hL h => tenantMatchesModel_came W args ds hL h))
theorem tenantMatchesModel_holds : Rows.TenantMatchesModelCardSaid :=
  Claim7.holds_tied_plain_at .later [] [.data, .pinned] true (true, "80be85027a276db1170fb2c4608c105be0a44d1c60bd2c78a81fd6b077ae522d") false tenantMatchesModel_row (fun _ h => by cases h) (by kernel_rfl) (fun _ h => by cases h) tenantMatchesModel_row_tie rfl ⟨rfl, rfl⟩ (by kernel_rfl) rfl
    (fun f fn hf hfn => by
      obtain rfl : f = 3 := Option.some.inj ((show Tryd.prog.funcNamed "ginnel/ginnellaw14.TenantMatchesModel" = some 3 by kernel_rfl).symm.trans hf) |>.symm
      obtain rfl : fn = Tryd.f3 := (Option.some.inj (Tryd.func3.symm.trans hfn)).symm
      exact ⟨by kernel_rfl, fun j t ht => by
        have hall : (Tryd.f3.params.toList.all fun u => !Tryd.prog.wantsStandIn u) = true := by kernel_rfl
        have hm : t ∈ Tryd.f3.params.toList := Array.mem_toList_iff.2 (Array.mem_of_getElem? ht)
        have h2 := List.all_eq_true.1 hall t hm
        cases hx : Tryd.prog.wantsStandIn t with
        | false => exact hx
        | true => rw [hx] at h2; cases h2⟩)
    (by kernel_rfl)
#print axioms tenantMatchesModel_holds
end Go.Proofs.YtbmbnibamhgfmaaDoor
