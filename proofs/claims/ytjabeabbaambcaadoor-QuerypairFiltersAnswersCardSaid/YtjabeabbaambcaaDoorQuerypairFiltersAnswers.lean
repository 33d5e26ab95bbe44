/- For every input the law QuerypairFiltersAnswers returns true, and each argument reads afterwards as it read before; the listed package-level variables hold what the program's text lays. -/
import Derived.Test.YtjabeabbaambcaaDoorLawQP3
import Derived.Test.YtjabeabbaambcaaDoorCards
import Derived.Test.YtjabeabbaambcaaDoorTie
import Derived.SevenTiedAt
import Derived.Test.YtjabeabbaambcaaDoorShellD
namespace Go.Proofs.YtjabeabbaambcaaDoor
open Go.ChangeShapes Go.WideShapes Go.ChangeAt Go.RowKit
theorem querypairFiltersAnswers_row : Rows.QuerypairFiltersAnswersSaid :=
  OpenClaim.holds_of_wide 3 Tryd.f3 rfl rfl rfl rfl rfl rfl rfl ⟨rfl, rfl, rfl, rfl, rfl⟩ rfl rfl rfl rfl rfl (by kernel_rfl) Tryd.func3 (by kernel_rfl)
    (of_decide_eq_true (by kernel_rfl)) (by unfold Func.isWrapper; first | (rw [if_pos (by decide +kernel)]; kernel_rfl) | (rw [if_neg (by decide +kernel)]; exact ⟨rfl, rfl⟩))
    (fun os started H enc _ => law_shell_door Rows.querypairFiltersAnswersRow.laid 3 Tryd.f3 Rows.querypairFiltersAnswersSpec 4 (by kernel_rfl) started (by kernel_rfl) Tryd.func3 (by kernel_rfl) (by kernel_rfl) rfl Tryd.underlying4 rfl
      (fun ds h => by match ds, h with | [_, _, _], _ => rfl)
      (door_witness (enc := enc) (C := Tryd.checked) #[.slice none 0 0, .int .i64 0, .bool false] 8 (World.shaped_of_ZipB (by kernel_rfl) (by kernel_rfl)) (by kernel_rfl) (by kernel_rfl) (by kernel_rfl) (by rw [MakeChecks.laidMetH_plain _ _ _ (by kernel_rfl)]; exact laidMet_laidAll _ (by kernel_rfl) (by kernel_rfl)))
      (fun W args ds hL h => querypairFiltersAnswers_came W args ds hL h))
theorem querypairFiltersAnswers_holds : Rows.QuerypairFiltersAnswersCardSaid :=
  Claim7.holds_tied_plain_at .later [] [.data, .pinned] true (true, "0f6f24373a7442102c946cf4e8d48fc6f69239621b60ce9659ca90ea52919f28") false querypairFiltersAnswers_row (fun _ h => by cases h) (by kernel_rfl) (fun _ h => by cases h) querypairFiltersAnswers_row_tie rfl ⟨rfl, rfl⟩ (by kernel_rfl) rfl
    (fun f fn hf hfn => by
      obtain rfl : f = 3 := Option.some.inj ((show Tryd.prog.funcNamed "ginnel/ginnellaw27.QuerypairFiltersAnswers" = some 3 by kernel_rfl).symm.trans hf) |>.symm
      obtain rfl : fn = Tryd.f3 := (Option.some.inj (Tryd.func3.symm.trans hfn)).symm
      exact ⟨by kernel_rfl, fun j t ht => by
        have hall : (Tryd.f3.params.toList.all fun u => !Tryd.prog.wantsStandIn u) = true := by kernel_rfl
        have hm : t ∈ Tryd.f3.params.toList := Array.mem_toList_iff.2 (Array.mem_of_getElem? ht)
        have h2 := List.all_eq_true.1 hall t hm
        cases hx : Tryd.prog.wantsStandIn t with
        | false => exact hx
        | true => rw [hx] at h2; cases h2⟩)
    (by kernel_rfl)
#print axioms querypairFiltersAnswers_holds
end Go.Proofs.YtjabeabbaambcaaDoor
