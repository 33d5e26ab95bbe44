/- For every input the law HttpstatusRoundTrip returns true, and each argument reads afterwards as it read before; the listed package-level variables hold what the program's text lays. -/
import Derived.Test.YtidfigehahfpeaaDoorLawHttp2
import Derived.Test.YtidfigehahfpeaaDoorCards
import Derived.Test.YtidfigehahfpeaaDoorTie
import Derived.SevenTiedAt
import Derived.Test.YtidfigehahfpeaaDoorShellD
namespace Go.Proofs.YtidfigehahfpeaaDoor
open Go.ChangeShapes Go.WideShapes Go.ChangeAt Go.RowKit
theorem httpstatusRoundTrip_row : Rows.HttpstatusRoundTripSaid :=
  OpenClaim.holds_of_wide 4 Tryd.f4 rfl rfl rfl rfl rfl rfl rfl ⟨rfl, rfl, rfl, rfl, rfl⟩ rfl rfl rfl rfl rfl (by kernel_rfl) Tryd.func4 (by kernel_rfl)
    (of_decide_eq_true (by kernel_rfl)) (by unfold Func.isWrapper; first | (rw [if_pos (by decide +kernel)]; kernel_rfl) | (rw [if_neg (by decide +kernel)]; exact ⟨rfl, rfl⟩))
    (fun os started H enc _ => law_shell_door Rows.httpstatusRoundTripRow.laid 4 Tryd.f4 Rows.httpstatusRoundTripSpec 4 (by kernel_rfl) started (by kernel_rfl) Tryd.func4 (by kernel_rfl) (by kernel_rfl) rfl Tryd.underlying4 rfl
      (fun ds h => by match ds, h with | [_, _, _], _ => rfl)
      (door_witness (enc := enc) (C := Tryd.checked) #[.int .i64 0, .int .i64 0, .string ⟨#[]⟩] 8 (World.shaped_of_ZipB (by kernel_rfl) (by kernel_rfl)) (by kernel_rfl) (by kernel_rfl) (by kernel_rfl) (by rw [MakeChecks.laidMetH_plain _ _ _ (by kernel_rfl)]; exact laidMet_laidAll _ (by kernel_rfl) (by kernel_rfl)))
      (fun W args ds hL h => httpstatusRoundTrip_came W args ds hL h))
theorem httpstatusRoundTrip_holds : Rows.HttpstatusRoundTripCardSaid :=
  Claim7.holds_tied_plain_at .later [] [.data, .data, .data] true (true, "fcf80e1bbbaf8872d96a5d485412283007d0d91502e78346762b34ff9cdf5e3a") false httpstatusRoundTrip_row (fun _ h => by cases h) (by kernel_rfl) (fun _ h => by cases h) httpstatusRoundTrip_row_tie rfl ⟨rfl, rfl⟩ (by kernel_rfl) rfl
    (fun f fn hf hfn => by
      obtain rfl : f = 4 := Option.some.inj ((show Tryd.prog.funcNamed "ginnel/ginnellaw21.HttpstatusRoundTrip" = some 4 by kernel_rfl).symm.trans hf) |>.symm
      obtain rfl : fn = Tryd.f4 := (Option.some.inj (Tryd.func4.symm.trans hfn)).symm
      exact ⟨by kernel_rfl, fun j t ht => by
        have hall : (Tryd.f4.params.toList.all fun u => !Tryd.prog.wantsStandIn u) = true := by kernel_rfl
        have hm : t ∈ Tryd.f4.params.toList := Array.mem_toList_iff.2 (Array.mem_of_getElem? ht)
        have h2 := List.all_eq_true.1 hall t hm
        cases hx : Tryd.prog.wantsStandIn t with
        | false => exact hx
        | true => rw [hx] at h2; cases h2⟩)
    (by kernel_rfl)
#print axioms httpstatusRoundTrip_holds
end Go.Proofs.YtidfigehahfpeaaDoor
