/- For every input the law QuerypairMatchesModel returns true, and each argument reads afterwards as it read before; the listed package-level variables hold what the program's text lays. -/
import Derived.Test.YtjabeabbaambcaaDoorLawQP2
import Derived.Test.YtjabeabbaambcaaDoorCards
import Derived.Test.YtjabeabbaambcaaDoorTie
import Derived.SevenTiedAt
import Derived.Test.YtjabeabbaambcaaDoorShellD
namespace Go.Proofs.YtjabeabbaambcaaDoor
open Go.ChangeShapes Go.WideShapes Go.ChangeAt Go.RowKit
theorem querypairMatchesModel_row : Rows.QuerypairMatchesModelSaid :=
  OpenClaim.holds_of_wide 7 Tryd.f7 rfl rfl rfl rfl rfl rfl rfl ⟨rfl, rfl, rfl, rfl, rfl⟩ rfl rfl rfl rfl rfl (by kernel_rfl) Tryd.func7 (by kernel_rfl)
    (of_decide_eq_true (by kernel_rfl)) (by unfold Func.isWrapper; first | (rw [if_pos (by decide +kernel)]; kernel_rfl) | (rw [if_neg (by decide +kernel)]; exact ⟨rfl, rfl⟩))
    (fun os started H enc _ => law_shell_door Rows.querypairMatchesModelRow.laid 7 Tryd.f7 Rows.querypairMatchesModelSpec 4 (by kernel_rfl) started (by kernel_rfl) Tryd.func7 (by kernel_rfl) (by kernel_rfl) rfl Tryd.underlying4 rfl
      (fun ds h => by match ds, h with | [_, _, _], _ => rfl)
      (door_witness (enc := enc) (C := Tryd.checked) #[.int .u64 0, .slice none 0 0, .slice none 0 0] 8 (World.shaped_of_ZipB (by kernel_rfl) (by kernel_rfl)) (by kernel_rfl) (by kernel_rfl) (by kernel_rfl) (by rw [MakeChecks.laidMetH_plain _ _ _ (by kernel_rfl)]; exact laidMet_laidAll _ (by kernel_rfl) (by kernel_rfl)))
      (fun W args ds hL h => querypairMatchesModel_came W args ds hL h))
theorem querypairMatchesModel_holds : Rows.QuerypairMatchesModelCardSaid :=
  Claim7.holds_tied_plain_at .later [] [.data, .pinned] true (true, "0f6f24373a7442102c946cf4e8d48fc6f69239621b60ce9659ca90ea52919f28") false querypairMatchesModel_row (fun _ h => by cases h) (by kernel_rfl) (fun _ h => by cases h) querypairMatchesModel_row_tie rfl ⟨rfl, rfl⟩ (by kernel_rfl) rfl
    (fun f fn hf hfn => by
      obtain rfl : f = 7 := Option.some.inj ((show Tryd.prog.funcNamed "ginnel/ginnellaw27.QuerypairMatchesModel" = some 7 by kernel_rfl).symm.trans hf) |>.symm
      obtain rfl : fn = Tryd.f7 := (Option.some.inj (Tryd.func7.symm.trans hfn)).symm
      exact ⟨by kernel_rfl, fun j t ht => by
        have hall : (Tryd.f7.params.toList.all fun u => !Tryd.prog.wantsStandIn u) = true := by kernel_rfl
        have hm : t ∈ Tryd.f7.params.toList := Array.mem_toList_iff.2 (Array.mem_of_getElem? ht)
        have h2 := List.all_eq_true.1 hall t hm
        cases hx : Tryd.prog.wantsStandIn t with
        | false => exact hx
        | true => rw [hx] at h2; cases h2⟩)
    (by kernel_rfl)
#print axioms querypairMatchesModel_holds
end Go.Proofs.YtjabeabbaambcaaDoor
