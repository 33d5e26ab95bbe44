/- For every input the law TrieMatchesModel returns true, and each argument reads afterwards as it read before; the listed package-level variables hold what the program's text lays. -/
import Derived.Test.YtjpiekljjhgmoaaDoorLawTr4
import Derived.Test.YtjpiekljjhgmoaaDoorCards
import Derived.Test.YtjpiekljjhgmoaaDoorTie
import Derived.SevenTiedAt
import Derived.Test.YtjpiekljjhgmoaaDoorMD
namespace Go.Proofs.YtjpiekljjhgmoaaDoor
open Go.ChangeShapes Go.WideShapes Go.ChangeAt Go.RowKit
theorem trieMatchesModel_row : Rows.TrieMatchesModelSaid :=
  OpenClaim.holds_of_wide 6 Tryd.f6 rfl rfl rfl rfl rfl rfl rfl ⟨rfl, rfl, rfl, rfl, rfl⟩ rfl rfl rfl rfl rfl (by kernel_rfl) Tryd.func6 (by kernel_rfl)
    (of_decide_eq_true (by kernel_rfl)) (by unfold Func.isWrapper; first | (rw [if_pos (by decide +kernel)]; kernel_rfl) | (rw [if_neg (by decide +kernel)]; exact ⟨rfl, rfl⟩))
    (fun os started H enc _ => law_shell_door Rows.trieMatchesModelRow.laid 6 Tryd.f6 Rows.trieMatchesModelSpec 4 (by kernel_rfl) started (by kernel_rfl) Tryd.func6 (by kernel_rfl) (by kernel_rfl) rfl Tryd.underlying4 rfl
      (fun ds h => by match ds, h with | [_, _], _ => rfl)
      (door_witness (enc := enc) (C := Tryd.checked) #[.slice none 0 0, .slice none 0 0] 8 (World.shaped_of_ZipB (by kernel_rfl) (by kernel_rfl)) (by kernel_rfl) (by kernel_rfl) (by kernel_rfl) (by rw [MakeChecks.laidMetH_plain _ _ _ (by kernel_rfl)]; exact laidMet_laidAll _ (by kernel_rfl) (by kernel_rfl)))
      (fun W args ds hL h => trieMatchesModel_came W args ds hL h))
theorem trieMatchesModel_holds : Rows.TrieMatchesModelCardSaid :=
  Claim7.holds_tied_plain_at .later [] [.data, .pinned] true (true, "183a9a58f1c245d388d2687be0ad6c7c836a81ed2c490f6da948adc4bd5afcfb") false trieMatchesModel_row (fun _ h => by cases h) (by kernel_rfl) (fun _ h => by cases h) trieMatchesModel_row_tie rfl ⟨rfl, rfl⟩ (by kernel_rfl) rfl
    (fun f fn hf hfn => by
      obtain rfl : f = 6 := Option.some.inj ((show Tryd.prog.funcNamed "ginnel/ginnellaw10.TrieMatchesModel" = some 6 by kernel_rfl).symm.trans hf) |>.symm
      obtain rfl : fn = Tryd.f6 := (Option.some.inj (Tryd.func6.symm.trans hfn)).symm
      exact ⟨by kernel_rfl, fun j t ht => by
        have hall : (Tryd.f6.params.toList.all fun u => !Tryd.prog.wantsStandIn u) = true := by kernel_rfl
        have hm : t ∈ Tryd.f6.params.toList := Array.mem_toList_iff.2 (Array.mem_of_getElem? ht)
        have h2 := List.all_eq_true.1 hall t hm
        cases hx : Tryd.prog.wantsStandIn t with
        | false => exact hx
        | true => rw [hx] at h2; cases h2⟩)
    (by kernel_rfl)
#print axioms trieMatchesModel_holds
end Go.Proofs.YtjpiekljjhgmoaaDoor
