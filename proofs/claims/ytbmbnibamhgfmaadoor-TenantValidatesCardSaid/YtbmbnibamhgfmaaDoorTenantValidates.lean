/- For every input the law TenantValidates returns true, and each argument reads afterwards as it read before; the listed package-level variables hold what the program's text lays. -/
import Derived.Test.YtbmbnibamhgfmaaDoorLawTen2
import Derived.Test.YtbmbnibamhgfmaaDoorCards
import Derived.Test.YtbmbnibamhgfmaaDoorTie
import Derived.SevenTiedAt
import Derived.Test.YtbmbnibamhgfmaaDoorMD
namespace Go.Proofs.YtbmbnibamhgfmaaDoor
open Go.ChangeShapes Go.WideShapes Go.ChangeAt Go.RowKit
theorem tenantValidates_row : Rows.TenantValidatesSaid :=
  OpenClaim.holds_of_wide 4 Tryd.f4 rfl rfl rfl rfl rfl rfl rfl ⟨rfl, rfl, rfl, rfl, rfl⟩ rfl rfl rfl rfl rfl (by kernel_rfl) Tryd.func4 (by kernel_rfl)
    (of_decide_eq_true (by kernel_rfl)) (by unfold Func.isWrapper; first | (rw [if_pos (by decide +kernel)]; kernel_rfl) | (rw [if_neg (by decide +kernel)]; exact ⟨rfl, rfl⟩))
    (fun os started H enc _ => law_shell_door Rows.tenantValidatesRow.laid 4 Tryd.f4 Rows.tenantValidatesSpec 4 (by kernel_rfl) started (by kernel_rfl) Tryd.func4 (by kernel_rfl) (by kernel_rfl) rfl Tryd.underlying4 rfl
      (fun ds h => by match ds, h with | [_, _, _], _ => rfl)
      (door_witness (enc := enc) (C := Tryd.checked) #[.slice none 0 0, .string ⟨#[]⟩, .bool false] 8 (World.shaped_of_ZipB (by kernel_rfl) (by kernel_rfl)) (by kernel_rfl) (by kernel_rfl) (by kernel_rfl) (by rw [MakeChecks.laidMetH_plain _ _ _ (by kernel_rfl)]; exact laidMet_laidAll _ (by kernel_rfl) (by kernel_rfl)))
      (fun W args ds hL h => tenantValidates_came W args ds hL h))
theorem tenantValidates_holds : Rows.TenantValidatesCardSaid :=
  Claim7.holds_tied_plain_at .later [] [.data, .pinned] true (true, "80be85027a276db1170fb2c4608c105be0a44d1c60bd2c78a81fd6b077ae522d") false tenantValidates_row (fun _ h => by cases h) (by kernel_rfl) (fun _ h => by cases h) tenantValidates_row_tie rfl ⟨rfl, rfl⟩ (by kernel_rfl) rfl
    (fun f fn hf hfn => by
      obtain rfl : f = 4 := Option.some.inj ((show Tryd.prog.funcNamed "ginnel/ginnellaw14.TenantValidates" = some 4 by kernel_rfl).symm.trans hf) |>.symm
      obtain rfl : fn = Tryd.f4 := (Option.some.inj (Tryd.func4.symm.trans hfn)).symm
      exact ⟨by kernel_rfl, fun j t ht => by
        have hall : (Tryd.f4.params.toList.all fun u => !Tryd.prog.wantsStandIn u) = true := by kernel_rfl
        have hm : t ∈ Tryd.f4.params.toList := Array.mem_toList_iff.2 (Array.mem_of_getElem? ht)
        have h2 := List.all_eq_true.1 hall t hm
        cases hx : Tryd.prog.wantsStandIn t with
        | false => exact hx
        | true => rw [hx] at h2; cases h2⟩)
    (by kernel_rfl)
#print axioms tenantValidates_holds
end Go.Proofs.YtbmbnibamhgfmaaDoor
