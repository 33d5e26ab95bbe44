/- For every input the law PolicytableIPv4AsMapped returns true, and each argument reads afterwards as it read before; the listed package-level variables hold what the program's text lays. -/
import Derived.Test.YtjabeabbaambcaaDoorLawPol1
import Derived.Test.YtjabeabbaambcaaDoorCards
import Derived.Test.YtjabeabbaambcaaDoorTie
import Derived.SevenTiedAt
import Derived.Test.YtjabeabbaambcaaDoorShellD
namespace Go.Proofs.YtjabeabbaambcaaDoor
open Go.ChangeShapes Go.WideShapes Go.ChangeAt Go.RowKit
theorem policytableIPv4AsMapped_row : Rows.PolicytableIPv4AsMappedSaid :=
  OpenClaim.holds_of_wide 11 Tryd.f11 rfl rfl rfl rfl rfl rfl rfl ⟨rfl, rfl, rfl, rfl, rfl⟩ rfl rfl rfl rfl rfl (by kernel_rfl) Tryd.func11 (by kernel_rfl)
    (of_decide_eq_true (by kernel_rfl)) (by unfold Func.isWrapper; first | (rw [if_pos (by decide +kernel)]; kernel_rfl) | (rw [if_neg (by decide +kernel)]; exact ⟨rfl, rfl⟩))
    (fun os started H enc _ => law_shell_door Rows.policytableIPv4AsMappedRow.laid 11 Tryd.f11 Rows.policytableIPv4AsMappedSpec 4 (by kernel_rfl) started (by kernel_rfl) Tryd.func11 (by kernel_rfl) (by kernel_rfl) rfl Tryd.underlying4 rfl
      (fun ds h => by match ds, h with | [_, _, _, _], _ => rfl)
      (door_witness (enc := enc) (C := Tryd.checked) #[.int .u8 0, .int .u8 0, .int .u8 0, .int .u8 0] 8 (World.shaped_of_ZipB (by kernel_rfl) (by kernel_rfl)) (by kernel_rfl) (by kernel_rfl) (by kernel_rfl) (by rw [MakeChecks.laidMetH_plain _ _ _ (by kernel_rfl)]; exact laidMet_laidAll _ (by kernel_rfl) (by kernel_rfl)))
      (fun W args ds hL h => policytableIPv4AsMapped_came W args ds hL h))
theorem policytableIPv4AsMapped_holds : Rows.PolicytableIPv4AsMappedCardSaid :=
  Claim7.holds_tied_plain_at .later [] [.data, .pinned] true (true, "0f6f24373a7442102c946cf4e8d48fc6f69239621b60ce9659ca90ea52919f28") false policytableIPv4AsMapped_row (fun _ h => by cases h) (by kernel_rfl) (fun _ h => by cases h) policytableIPv4AsMapped_row_tie rfl ⟨rfl, rfl⟩ (by kernel_rfl) rfl
    (fun f fn hf hfn => by
      obtain rfl : f = 11 := Option.some.inj ((show Tryd.prog.funcNamed "ginnel/ginnellaw24.PolicytableIPv4AsMapped" = some 11 by kernel_rfl).symm.trans hf) |>.symm
      obtain rfl : fn = Tryd.f11 := (Option.some.inj (Tryd.func11.symm.trans hfn)).symm
      exact ⟨by kernel_rfl, fun j t ht => by
        have hall : (Tryd.f11.params.toList.all fun u => !Tryd.prog.wantsStandIn u) = true := by kernel_rfl
        have hm : t ∈ Tryd.f11.params.toList := Array.mem_toList_iff.2 (Array.mem_of_getElem? ht)
        have h2 := List.all_eq_true.1 hall t hm
        cases hx : Tryd.prog.wantsStandIn t with
        | false => exact hx
        | true => rw [hx] at h2; cases h2⟩)
    (by kernel_rfl)
#print axioms policytableIPv4AsMapped_holds
end Go.Proofs.YtjabeabbaambcaaDoor
