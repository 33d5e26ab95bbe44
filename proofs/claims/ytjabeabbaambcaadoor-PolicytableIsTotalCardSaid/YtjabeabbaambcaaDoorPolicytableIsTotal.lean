/- For every input the law PolicytableIsTotal returns true, and each argument reads afterwards as it read before; the listed package-level variables hold what the program's text lays. -/
import Derived.Test.YtjabeabbaambcaaDoorLawPol4
import Derived.Test.YtjabeabbaambcaaDoorCards
import Derived.Test.YtjabeabbaambcaaDoorTie
import Derived.SevenTiedAt
import Derived.Test.YtjabeabbaambcaaDoorShellD
namespace Go.Proofs.YtjabeabbaambcaaDoor
open Go.ChangeShapes Go.WideShapes Go.ChangeAt Go.RowKit
theorem policytableIsTotal_row : Rows.PolicytableIsTotalSaid :=
  OpenClaim.holds_of_wide 12 Tryd.f12 rfl rfl rfl rfl rfl rfl rfl ⟨rfl, rfl, rfl, rfl, rfl⟩ rfl rfl rfl rfl rfl (by kernel_rfl) Tryd.func12 (by kernel_rfl)
    (of_decide_eq_true (by kernel_rfl)) (by unfold Func.isWrapper; first | (rw [if_pos (by decide +kernel)]; kernel_rfl) | (rw [if_neg (by decide +kernel)]; exact ⟨rfl, rfl⟩))
    (fun os started H enc _ => law_shell_door Rows.policytableIsTotalRow.laid 12 Tryd.f12 Rows.policytableIsTotalSpec 4 (by kernel_rfl) started (by kernel_rfl) Tryd.func12 (by kernel_rfl) (by kernel_rfl) rfl Tryd.underlying4 rfl
      (fun ds h => by match ds, h with | [_], _ => rfl)
      (door_witness (enc := enc) (C := Tryd.checked) #[.agg #[.bool false, .int .u8 0, .int .u8 0, .int .u8 0, .int .u8 0, .int .u8 0, .int .u8 0, .int .u8 0, .int .u8 0, .int .u8 0, .int .u8 0, .int .u8 0, .int .u8 0, .int .u8 0, .int .u8 0, .int .u8 0, .int .u8 0]] 8 (World.shaped_of_ZipB (by kernel_rfl) (by kernel_rfl)) (by kernel_rfl) (by kernel_rfl) (by kernel_rfl) (by rw [MakeChecks.laidMetH_plain _ _ _ (by kernel_rfl)]; exact laidMet_laidAll _ (by kernel_rfl) (by kernel_rfl)))
      (fun W args ds hL h => policytableIsTotal_came W args ds hL h))
theorem policytableIsTotal_holds : Rows.PolicytableIsTotalCardSaid :=
  Claim7.holds_tied_plain_at .later [] [.data, .pinned] true (true, "0f6f24373a7442102c946cf4e8d48fc6f69239621b60ce9659ca90ea52919f28") false policytableIsTotal_row (fun _ h => by cases h) (by kernel_rfl) (fun _ h => by cases h) policytableIsTotal_row_tie rfl ⟨rfl, rfl⟩ (by kernel_rfl) rfl
    (fun f fn hf hfn => by
      obtain rfl : f = 12 := Option.some.inj ((show Tryd.prog.funcNamed "ginnel/ginnellaw24.PolicytableIsTotal" = some 12 by kernel_rfl).symm.trans hf) |>.symm
      obtain rfl : fn = Tryd.f12 := (Option.some.inj (Tryd.func12.symm.trans hfn)).symm
      exact ⟨by kernel_rfl, fun j t ht => by
        have hall : (Tryd.f12.params.toList.all fun u => !Tryd.prog.wantsStandIn u) = true := by kernel_rfl
        have hm : t ∈ Tryd.f12.params.toList := Array.mem_toList_iff.2 (Array.mem_of_getElem? ht)
        have h2 := List.all_eq_true.1 hall t hm
        cases hx : Tryd.prog.wantsStandIn t with
        | false => exact hx
        | true => rw [hx] at h2; cases h2⟩)
    (by kernel_rfl)
#print axioms policytableIsTotal_holds
end Go.Proofs.YtjabeabbaambcaaDoor
