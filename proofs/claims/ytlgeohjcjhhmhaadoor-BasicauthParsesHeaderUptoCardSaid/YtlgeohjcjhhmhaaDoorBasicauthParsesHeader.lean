/- For every input of bulk at most 1048576 the law BasicauthParsesHeader returns true, and each argument reads afterwards as it read before; the listed package-level variables hold what the program's text lays. -/
import Derived.Test.YtlgeohjcjhhmhaaDoorLawB643
import Derived.Test.YtlgeohjcjhhmhaaDoorCards
import Derived.Test.YtlgeohjcjhhmhaaDoorTie
import Derived.SevenTiedAt
import Derived.Test.YtlgeohjcjhhmhaaDoorShellD
import Derived.Test.YtlgeohjcjhhmhaaDoorShellU
import Derived.Stop.Joined
namespace Go.Proofs.YtlgeohjcjhhmhaaDoor
open Go.ChangeShapes Go.WideShapes Go.ChangeAt Go.RowKit
theorem basicauthParsesHeader_row : Rows.BasicauthParsesHeaderUptoSaid :=
  OpenClaim.holds_of_cond 10 Tryd.f10 rfl rfl rfl rfl rfl rfl rfl ⟨rfl, rfl, rfl, rfl, rfl⟩ rfl rfl rfl rfl rfl (by kernel_rfl) Tryd.func10 (by kernel_rfl)
    (of_decide_eq_true (by kernel_rfl)) (by unfold Func.isWrapper; first | (rw [if_pos (by decide +kernel)]; kernel_rfl) | (rw [if_neg (by decide +kernel)]; exact ⟨rfl, rfl⟩))
    (fun os started H enc _ F => by
      rw [OpenClaim.pre_eq_preRow]
      exact law_shell_upto Rows.basicauthParsesHeaderUptoRow.laid 10 Tryd.f10 Rows.basicauthParsesHeaderSpec F 4 (by kernel_rfl) started (by kernel_rfl) Tryd.func10 (by kernel_rfl) (by kernel_rfl) rfl Tryd.underlying4 rfl
        (fun ds h => by match ds, h with | [_, _, _, _], _ => rfl)
        (upto_witness (enc := enc) (C := Tryd.checked) #[.string ByteArray.empty, .slice none 0 0, .int .u8 0, .int .i64 0] 8 (by kernel_rfl) (by kernel_rfl) (by kernel_rfl) (x := ([.lit (.string []), .nil, .lit (.int .u8 0), .lit (.int .i64 0)], [], [])) (by kernel_rfl) (by kernel_rfl) (by kernel_rfl) (by rw [MakeChecks.laidMetH_plain _ _ _ (by kernel_rfl)]; exact laidMet_laidAll _ (by kernel_rfl) (by kernel_rfl)))
        (fun W args ds hL hk h => basicauthParsesHeader_came W args ds hL hk h))
theorem basicauthParsesHeader_holds : Rows.BasicauthParsesHeaderUptoCardSaid :=
  Claim7.holds_tied_plain_at .later [] _ _ _ _ basicauthParsesHeader_row (fun _ h => by cases h) (by kernel_rfl) (fun _ h => by cases h) basicauthParsesHeaderUpto_row_tie rfl ⟨rfl, rfl⟩ (by kernel_rfl) rfl
    (fun f fn hf hfn => by
      obtain rfl : f = 10 := Option.some.inj ((show Tryd.prog.funcNamed "ginnel/ginnellaw15.BasicauthParsesHeader" = some 10 by kernel_rfl).symm.trans hf) |>.symm
      obtain rfl : fn = Tryd.f10 := (Option.some.inj (Tryd.func10.symm.trans hfn)).symm
      exact ⟨by kernel_rfl, fun j t ht => by
        have hall : (Tryd.f10.params.toList.all fun u => !Tryd.prog.wantsStandIn u) = true := by kernel_rfl
        have hm : t ∈ Tryd.f10.params.toList := Array.mem_toList_iff.2 (Array.mem_of_getElem? ht)
        have h2 := List.all_eq_true.1 hall t hm
        cases hx : Tryd.prog.wantsStandIn t with
        | false => exact hx
        | true => rw [hx] at h2; cases h2⟩)
    (by kernel_rfl)
#print axioms basicauthParsesHeader_holds
end Go.Proofs.YtlgeohjcjhhmhaaDoor
