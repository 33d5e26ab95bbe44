/- For every input of bulk at most 1048576 the law BasicauthBase64IsStrict returns true, and each argument reads afterwards as it read before; the listed package-level variables hold what the program's text lays. -/
import Derived.Test.YtlgeohjcjhhmhaaDoorLawB64
import Derived.Test.YtlgeohjcjhhmhaaDoorCards
import Derived.Test.YtlgeohjcjhhmhaaDoorTie
import Derived.SevenTiedAt
import Derived.Test.YtlgeohjcjhhmhaaDoorShellD
import Derived.Test.YtlgeohjcjhhmhaaDoorShellU
import Derived.Stop.Joined
namespace Go.Proofs.YtlgeohjcjhhmhaaDoor
open Go.ChangeShapes Go.WideShapes Go.ChangeAt Go.RowKit
theorem basicauthBase64IsStrict_row : Rows.BasicauthBase64IsStrictUptoSaid :=
  OpenClaim.holds_of_cond 9 Tryd.f9 rfl rfl rfl rfl rfl rfl rfl ⟨rfl, rfl, rfl, rfl, rfl⟩ rfl rfl rfl rfl rfl (by kernel_rfl) Tryd.func9 (by kernel_rfl)
    (of_decide_eq_true (by kernel_rfl)) (by unfold Func.isWrapper; first | (rw [if_pos (by decide +kernel)]; kernel_rfl) | (rw [if_neg (by decide +kernel)]; exact ⟨rfl, rfl⟩))
    (fun os started H enc _ F => by
      rw [OpenClaim.pre_eq_preRow]
      exact law_shell_upto Rows.basicauthBase64IsStrictUptoRow.laid 9 Tryd.f9 Rows.basicauthBase64IsStrictSpec F 4 (by kernel_rfl) started (by kernel_rfl) Tryd.func9 (by kernel_rfl) (by kernel_rfl) rfl Tryd.underlying4 rfl
        (fun ds h => by match ds, h with | [_, _], _ => rfl)
        (upto_witness (enc := enc) (C := Tryd.checked) #[.string ByteArray.empty, .slice none 0 0] 8 (by kernel_rfl) (by kernel_rfl) (by kernel_rfl) (x := ([.lit (.string []), .nil], [], [])) (by kernel_rfl) (by kernel_rfl) (by kernel_rfl) (by rw [MakeChecks.laidMetH_plain _ _ _ (by kernel_rfl)]; exact laidMet_laidAll _ (by kernel_rfl) (by kernel_rfl)))
        (fun W args ds hL hk h => basicauthBase64IsStrict_came W args ds hL hk h))
theorem basicauthBase64IsStrict_holds : Rows.BasicauthBase64IsStrictUptoCardSaid :=
  Claim7.holds_tied_plain_at .later [] _ _ _ _ basicauthBase64IsStrict_row (fun _ h => by cases h) (by kernel_rfl) (fun _ h => by cases h) basicauthBase64IsStrictUpto_row_tie rfl ⟨rfl, rfl⟩ (by kernel_rfl) rfl
    (fun f fn hf hfn => by
      obtain rfl : f = 9 := Option.some.inj ((show Tryd.prog.funcNamed "ginnel/ginnellaw15.BasicauthBase64IsStrict" = some 9 by kernel_rfl).symm.trans hf) |>.symm
      obtain rfl : fn = Tryd.f9 := (Option.some.inj (Tryd.func9.symm.trans hfn)).symm
      exact ⟨by kernel_rfl, fun j t ht => by
        have hall : (Tryd.f9.params.toList.all fun u => !Tryd.prog.wantsStandIn u) = true := by kernel_rfl
        have hm : t ∈ Tryd.f9.params.toList := Array.mem_toList_iff.2 (Array.mem_of_getElem? ht)
        have h2 := List.all_eq_true.1 hall t hm
        cases hx : Tryd.prog.wantsStandIn t with
        | false => exact hx
        | true => rw [hx] at h2; cases h2⟩)
    (by kernel_rfl)
#print axioms basicauthBase64IsStrict_holds
end Go.Proofs.YtlgeohjcjhhmhaaDoor
