/- For every input the law ReasonPrimaryIsOrderFree returns true, and each argument reads afterwards as it read before; the listed package-level variables hold what the program's text lays. -/
import Derived.Test.YtidfigehahfpeaaDoorLawReason2
import Derived.Test.YtidfigehahfpeaaDoorCards
import Derived.Test.YtidfigehahfpeaaDoorTie
import Derived.SevenTiedAt
import Derived.Test.YtidfigehahfpeaaDoorShellD
namespace Go.Proofs.YtidfigehahfpeaaDoor
open Go.ChangeShapes Go.WideShapes Go.ChangeAt Go.RowKit
theorem reasonPrimaryIsOrderFree_row : Rows.ReasonPrimaryIsOrderFreeSaid :=
  OpenClaim.holds_of_wide 12 Tryd.f12 rfl rfl rfl rfl rfl rfl rfl ⟨rfl, rfl, rfl, rfl, rfl⟩ rfl rfl rfl rfl rfl (by kernel_rfl) Tryd.func12 (by kernel_rfl)
    (of_decide_eq_true (by kernel_rfl)) (by unfold Func.isWrapper; first | (rw [if_pos (by decide +kernel)]; kernel_rfl) | (rw [if_neg (by decide +kernel)]; exact ⟨rfl, rfl⟩))
    (fun os started H enc _ => law_shell_door Rows.reasonPrimaryIsOrderFreeRow.laid 12 Tryd.f12 Rows.reasonPrimaryIsOrderFreeSpec 4 (by kernel_rfl) started (by kernel_rfl) Tryd.func12 (by kernel_rfl) (by kernel_rfl) rfl Tryd.underlying4 rfl
      (fun ds h => by match ds, h with | [_, _], _ => rfl)
      (door_witness (enc := enc) (C := Tryd.checked) #[.slice none 0 0, .int .i64 0] 8 (World.shaped_of_ZipB (by kernel_rfl) (by kernel_rfl)) (by kernel_rfl) (by kernel_rfl) (by kernel_rfl) (by rw [MakeChecks.laidMetH_plain _ _ _ (by kernel_rfl)]; exact laidMet_laidAll _ (by kernel_rfl) (by kernel_rfl)))
      (fun W args ds hL h => reasonPrimaryIsOrderFree_came W args ds hL h))
theorem reasonPrimaryIsOrderFree_holds : Rows.ReasonPrimaryIsOrderFreeCardSaid :=
  Claim7.holds_tied_plain_at .later [] [.data, .data, .data, .data, .pinned] true (true, "fcf80e1bbbaf8872d96a5d485412283007d0d91502e78346762b34ff9cdf5e3a") false reasonPrimaryIsOrderFree_row (fun _ h => by cases h) (by kernel_rfl) (fun _ h => by cases h) reasonPrimaryIsOrderFree_row_tie rfl ⟨rfl, rfl⟩ (by kernel_rfl) rfl
    (fun f fn hf hfn => by
      obtain rfl : f = 12 := Option.some.inj ((show Tryd.prog.funcNamed "ginnel/ginnellaw22.ReasonPrimaryIsOrderFree" = some 12 by kernel_rfl).symm.trans hf) |>.symm
      obtain rfl : fn = Tryd.f12 := (Option.some.inj (Tryd.func12.symm.trans hfn)).symm
      exact ⟨by kernel_rfl, fun j t ht => by
        have hall : (Tryd.f12.params.toList.all fun u => !Tryd.prog.wantsStandIn u) = true := by kernel_rfl
        have hm : t ∈ Tryd.f12.params.toList := Array.mem_toList_iff.2 (Array.mem_of_getElem? ht)
        have h2 := List.all_eq_true.1 hall t hm
        cases hx : Tryd.prog.wantsStandIn t with
        | false => exact hx
        | true => rw [hx] at h2; cases h2⟩)
    (by kernel_rfl)
#print axioms reasonPrimaryIsOrderFree_holds
end Go.Proofs.YtidfigehahfpeaaDoor
